/- Contracts of package model (4): Seen, New. -/
import Derived.Test.YtlfabajceflpdaaMod3
import Derived.Laws.MakeOwn
namespace Go.Proofs.Ytlfabajceflpdaa
open Go.RowKit Md
set_option linter.unusedVariables false
attribute [local go_sem] max2_int min2_int max_two min_two Sec.eqx Sec.guardx
namespace Mod
set_option maxHeartbeats 400000 in
set_option maxRecDepth 100000 in
theorem seen_no {w : World} {a b : Option Addr} {n cap m kap : Nat} {s : St} {l : List V} (hl : Lv w a n cap s.sure) (hk : Lv w b m kap l) (hn : n ≤ 2000) (hm : m ≤ 2000) (hq : may s l = false) :
    Calls Try.prog 10 #[stv a n cap s, .slice b m kap] w fun e w' => e = .returned (.tuple #[stv a n cap s, .bool false]) ∧ Below w.heap.size w w' := by
  have hM : ∀ o1 o2, Calls Try.prog 17 #[stv a n cap s, .slice b m kap] ((w.alloc o1).alloc o2) fun e w' => e = .returned (.bool false) ∧ Below ((w.alloc o1).alloc o2).heap.size ((w.alloc o1).alloc o2) w' := fun o1 o2 => by
    have := may_c (hl.below (alloc2_below w o1 o2)) (hk.below (alloc2_below w o1 o2)) hn hm
    rw [hq] at this
    exact this
  unfold stv at *
  clear hq
  go_enter Try.func10, Try.ntmps10
  go_wp2_with (go_at_call 17; refine (hM _ _).mono ?_; rintro e w1 ⟨rfl, b1⟩; clear hM; obtain ⟨e0, e1, b2⟩ := alloc2_then b1; clear b1; have E1 := Lib.hid e1; obtain ⟨x0, x1, x2, x3, x4, x5, x6, x7⟩ := cells7 e0; obtain ⟨y0, y1, y2, y3, y4, y5, y6, y7⟩ := cells7 e1)
  refine bodyPost_ret (retM2 rfl _ _ _ _ _ rfl rfl (put7 E1.out _ _ _ _ _ _ _) rfl) rfl ⟨rfl, put7_below b2 (by omega) _ _ _ _ _ _ _⟩
set_option maxHeartbeats 400000 in
set_option maxRecDepth 100000 in
theorem seen_yes {w : World} {a b : Option Addr} {n cap m kap : Nat} {s : St} {l : List V} (hl : Lv w a n cap s.sure) (hk : Lv w b m kap l) (hn : n ≤ 2000) (hm : m ≤ 2000) (hq : may s l = true) :
    Calls Try.prog 10 #[stv a n cap s, .slice b m kap] w fun e w' => ∃ a' kap', e = .returned (.tuple #[stv a' m kap' (calm l), .bool true]) ∧ Lv w' a' m kap' l ∧ Below w.heap.size w w' := by
  have hM : ∀ o1 o2, Calls Try.prog 17 #[stv a n cap s, .slice b m kap] ((w.alloc o1).alloc o2) fun e w' => e = .returned (.bool true) ∧ Below ((w.alloc o1).alloc o2).heap.size ((w.alloc o1).alloc o2) w' := fun o1 o2 => by
    have := may_c (hl.below (alloc2_below w o1 o2)) (hk.below (alloc2_below w o1 o2)) hn hm
    rw [hq] at this
    exact this
  unfold stv at *
  clear hq
  go_enter Try.func10, Try.ntmps10
  go_wp2_with (first | (go_at_call 17; refine (hM _ _).mono ?_; rintro e w1 ⟨rfl, b1⟩; clear hM; obtain ⟨e0, e1, b2⟩ := alloc2_then b1; have lt1 := (Array.getElem?_eq_some_iff.1 e1).1; clear b1 e0; have E1 := Lib.hid e1; clear e1) | (go_at_call 22; refine (clone_c (hk.below b2) hm).mono ?_; rintro e w2 ⟨v2, rfl, o2, b3⟩; replace E1 := Lib.hid ((b3.block _ (Array.getElem?_eq_some_iff.1 E1.out).1).trans E1.out); replace b2 := Below.then b2 b3; obtain ⟨a', kap', rfl, L2, hge⟩ := OwnsV.lv o2; obtain ⟨y0, y1, y2, y3, y4, y5, y6, y7⟩ := cells7 E1.out))
  exact bodyPost_ret (retM2 rfl _ _ _ _ _ rfl rfl (put7 E1.out _ _ _ _ _ _ _) rfl) rfl ⟨_, _, rfl, L2.same fun ad e => put7_away (by have := hge ad e; omega) _ _ _ _ _ _ _, put7_below b2 (by omega) _ _ _ _ _ _ _⟩
theorem flat_rep : ∀ N : Nat, flat (List.replicate N V.z) = List.replicate (N * 4) (.int .u32 0)
  | 0 => rfl
  | N + 1 => by
    rw [List.replicate_succ, flat, flat_rep N, show (N + 1) * 4 = N * 4 + 1 + 1 + 1 + 1 by omega]
    simp only [List.replicate_succ]
    rfl
theorem made_rep (N : Nat) : (madeCells #[Value.int .u32 0, .int .u32 0, .int .u32 0, .int .u32 0] N).toList = List.replicate N (.int .u32 0) := by
  rw [List.eq_replicate_iff]
  refine ⟨by simp [madeCells], fun b hb => ?_⟩
  simp only [madeCells, Array.toList_map, List.mem_map] at hb
  obtain ⟨i, _, rfl⟩ := hb
  have : i % 4 = 0 ∨ i % 4 = 1 ∨ i % 4 = 2 ∨ i % 4 = 3 := by omega
  show (#[Value.int .u32 0, .int .u32 0, .int .u32 0, .int .u32 0] : Array Value)[i % 4]! = _
  rcases this with h | h | h | h <;> rw [h] <;> rfl
theorem make_v {w : World} {ops : Array Oper} {rest : List Oper} {o : Oper} {a : Act} {Q : Exit → Act → World → Prop} (hg : o.guard = none) (l : Operand) (hop : o.op = Op.makeSlice 22 l l) {base : Nat} {N : Nat} (hl : a.eval l = .int .i64 (N : Int)) (hN : N ≤ 1000) (hb : base ≤ w.heap.size)
    (hK : ∀ w' g, base ≤ g → OwnsV w' base (.slice (some ⟨g, 0, none⟩) N N) N (List.replicate N V.z) → Lv w' (some ⟨g, 0, none⟩) N N (List.replicate N V.z) → w.grownBy w' none → w.heap.size ≤ g → wpList Try.prog ops Q rest (a.put o.dst (.slice (some ⟨g, 0, none⟩) N N)) w') : wpList Try.prog ops Q (o :: rest) a w := by
  obtain ⟨i0, hi, hz0, hz1, hz2⟩ := info_parts Sec.info4
  refine wpList_make_full w hg l l _ hop base 24 i0 _ 4 Sec.under4 hi hz0 hz1 .i64 .i64 N N N hl hl rfl rfl (by rw [hz2]; omega) (by unfold maxLen; omega) hb fun w' h1 h2 => ?_
  have h3 : OwnsV w' base (.slice (some ⟨w.heap.size, 0, none⟩) N N) N (List.replicate N V.z) := by
    unfold OwnsV
    rw [flat_rep, ← made_rep]
    exact h1
  obtain ⟨a', k', e, h4, _⟩ := h3.lv
  cases e
  exact hK w' _ hb h3 h4 h2 (Nat.le_refl _)
set_option maxHeartbeats 400000 in
set_option maxRecDepth 100000 in
theorem new_c {w : World} (x : Int) :
    Calls Try.prog 19 #[.int .i64 x] w fun e w' => ∃ a' n kap', e = .returned (stv a' n kap' (Md.new x)) ∧ n ≤ 1000 ∧ Lv w' a' n kap' (Md.new x).sure ∧ Below w.heap.size w w' := by
  obtain ⟨N, hN⟩ : ∃ N : Nat, (min (max x 0) 1000).toNat = N := ⟨_, rfl⟩
  have hN1 : N ≤ 1000 := by omega
  have hnew : Md.new x = calm (List.replicate N V.z) := by unfold Md.new; rw [hN]
  rw [hnew]
  have key : (x < 0 ∧ N = 0) ∨ (1000 < x ∧ N = 1000) ∨ x = N := by omega
  clear hN hnew
  rcases key with ⟨h1, rfl⟩ | ⟨h1, rfl⟩ | rfl
  all_goals
    go_enter Try.func19, Try.ntmps19
    go_wp2_with (refine make_v rfl _ rfl (base := w.heap.size + 1) rfl hN1 (by simp) ?_; intro w' g hg hO hL gr hg2; have b1 := (Below.refl _ _).grown gr (Nat.le_refl _) (by intro k hk; cases hk); obtain ⟨e1, b2⟩ := alloc1_then b1; have E1 := Lib.hid e1; obtain ⟨y0, y1, y2, y3, y4, y5, y6, y7⟩ := cells7 e1; clear e1)
    exact bodyPost_ret (retM rfl _ _ _ _ rfl (put7 E1.out _ _ _ _ _ _ _) rfl) rfl ⟨_, _, _, rfl, by omega, hL.same fun ad e => put7_away (by cases e; show ¬ g = _; omega) _ _ _ _ _ _ _, put7_below b2 (by omega) _ _ _ _ _ _ _⟩
end Mod
end Go.Proofs.Ytlfabajceflpdaa
