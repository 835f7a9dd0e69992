/- dioptralaw15: right, ram; the words of two memories, alike. -/
import Derived.Test.YtejgaldeamjplaaLive15
import Derived.Deep.RegionHeld3
namespace Go.Proofs.Ytejgaldeamjplaa
open Go.RowKit
set_option linter.unusedVariables false
theorem step_append_w {w : World} {ops : Array Oper} {o : Oper} {a : Act} {K : Act → World → Prop} {Q : Exit → Act → World → Prop} {E : Prop} (hgd : o.guard = none) (s x : Operand)
    (ho : o.op = .call { callee := .builtin .append, args := #[s, x], argTypes := #[23, 23] })
    (base : Nat) (v : Value) (n : Nat) (xs : List Int) (hs : a.eval s = v) (hown : w.ownsRow base 22 1 v n (xs.map (Value.int .u32)))
    {ad : Option Addr} {m c : Nat} {zs : List Int} (hx : a.eval x = .slice ad m c) (hl : Wd w ad m c zs) (hbig : n + m ≤ 100000) (hbase : base ≤ w.heap.size)
    (h : ∀ v' w', w'.ownsRow base 22 1 v' (n + m) ((xs ++ zs).map (Value.int .u32)) → w.grownBy w' v.ownBlock → K (a.put o.dst v') w') :
    if Region.wanted o (yielded ops a.tmps) = true then Oper.wp Try.prog o a w K Q else E := by
  obtain ⟨i0, hi, hz0, hz1, hz2⟩ := info_parts info32
  obtain ⟨hl1, hl2, hl3, _⟩ := hl
  rw [if_pos (by simp [Region.wanted, hgd])]
  rcases hl3 with ⟨rfl, rfl, rfl⟩ | ⟨ad, rfl, hc⟩
  · have hz : zs = [] := List.length_eq_zero_iff.1 hl1
    subst hz
    have hrun := run_append_owned_none (P := Try.prog) (w := w) base 23 o.type 22 i0 1 under32 hi v n _ hown
    unfold Oper.wp
    simp only [execOp, ho, resolve, invoke, builtin, Sem.run_bind, Sem.run_pure, Result.andThen_ok, List.map_toArray, List.map_cons, List.map_nil, hs, hx, hrun]
    exact h v w (by simpa using hown) (grownBy_refl _ _)
  · refine wp_append_own w s x _ ho base 22 i0 (.int .u32 0) 1 4 under32 hi hz0 hz1 hz2 rfl (by decide) v n _ hs hown ad m c (zs.map (Value.int .u32)) hx (by simp [hl1]) ?_ ?_ (by unfold maxLen; omega) (by omega) hbase ?_
    · intro j u hj
      have hjn : j < zs.length := by
        have := (List.getElem?_eq_some_iff.1 hj).1
        simpa using this
      obtain ⟨b, off, rfl, _⟩ := hc j (by omega)
      obtain ⟨b', off', e', hv⟩ := hc j (by omega)
      cases e'
      rw [Addr.add_lit, hv]
      have e : (zs.map (Value.int .u32))[j]? = some (Value.int .u32 (zs.getD j 0)) := by simp [List.getD, hjn]
      rw [e] at hj
      exact hj
    · intro u hu; obtain ⟨x, _, rfl⟩ := List.mem_map.1 hu; rfl
    · intro v' w' h1 h2 _
      exact h v' w' (by simpa using h1) h2
theorem ram_owns {w w1 : World} {B : Nat} {v : Value} {zs : List Int} (h : w1.ownsRow B 22 1 v zs.length (zs.map (Value.int .u32))) (hB : w.heap.size ≤ B) : ∃ r a kap, v = .slice a zs.length kap ∧ r < w1.heap.size + 1 ∧ ((a = none ∧ zs.length = 0 ∧ kap = 0) ∨ (a = some ⟨r, 0, none⟩ ∧ w.heap.size ≤ r ∧ ¬ r = w1.heap.size ∧ ∃ cur, w1.heap[r]? = some (.cells cur 22 (0, 0)) ∧ ∀ i, i < zs.length → cur[i]? = some (.int .u32 (zs.getD i 0)))) := by
  obtain ⟨h1, ⟨rfl, hn⟩ | ⟨g, cap, cur, rfl, hb, hg, hc, hm, hs, ht⟩⟩ := h
  · have : zs = [] := by simpa using hn
    subst this
    exact ⟨0, none, 0, rfl, by omega, .inl ⟨rfl, rfl, rfl⟩⟩
  · have lt := (Array.getElem?_eq_some_iff.1 hg).1
    refine ⟨g, _, cap, rfl, by omega, .inr ⟨rfl, by omega, by omega, cur, hg, fun i hi => ?_⟩⟩
    have e : (cur.toList.take (zs.length * 1))[i]? = (zs.map (Value.int .u32))[i]? := by rw [ht]
    rw [List.getElem?_take, if_pos (by omega), List.getElem?_map, List.getElem?_eq_getElem hi] at e
    rw [← Array.getElem?_toList, e]
    simp [List.getD, hi]
namespace Kit15
set_option maxHeartbeats 1000000 in
set_option maxRecDepth 100000 in
theorem words_same {w : World} {a b : Option Addr} {n k1 k2 j1 j2 : Nat} {zs : List Int} (h1 : Wd w a n j1 zs) (h2 : Wd w b n j2 zs) (hbig : n ≤ 4096) :
    Calls Try.prog 14 #[.slice a n k1, .slice b n k2] w fun e w' => e = .returned (.bool true) ∧ Below w.heap.size w w' := by
  have hb2 : (n : Int) ≤ 4096 := by omega
  go_enter Try.func14, Try.ntmps14
  go_wp2
  go_loopw [5] (fun i wr => ∃ k : Nat, k ≤ n ∧ i = .int .i64 k ∧ Below w.heap.size w wr) (fun i _ => n - (intOf i).toNat)
  case atStart => exact ⟨0, Nat.zero_le _, rfl, Below.refl _ _⟩
  case round =>
    obtain ⟨k, hk, rfl, hB⟩ := hrel
    by_cases hlt : k < n
    · obtain ⟨b1, o1, rfl, c1⟩ := h1.at_ hlt
      obtain ⟨b2, o2, rfl, c2⟩ := h2.at_ hlt
      have e1 := (hB.cell (World.block_lt_of_cell? w _ (c1 k hlt))).trans (c1 k hlt)
      have e2 := (hB.cell (World.block_lt_of_cell? w _ (c2 k hlt))).trans (c2 k hlt)
      have hlt2 : (k : Int) < (n : Int) := by omega
      clear c1 c2
      generalize zs.getD k 0 = x at e1 e2
      go_wp2
      go_quiet (fail)
      go_wp2
      go_roundw
      case rel => exact ⟨k + 1, by omega, by go_num, ⟨hB.os, hB.tape, hB.output, hB.size, hB.block⟩⟩
      case measure => simp [intOf]; omega
    · have hlt2 : (n : Int) ≤ (k : Int) := by omega
      go_wp2
      go_ret
      exact ⟨rfl, hB⟩
def rightB (n : Nat) (a : Wk.Ask) : Bool := decide (n ≤ 4096) && (decide (0 ≤ a.access) && (decide (a.access ≤ 2) && (a.priv == 0 || (a.priv == 1 || a.priv == 3))))
theorem right_ok {n : Nat} {a : Wk.Ask} (h : rightB n a = true) (h1 : 0 ≤ a.va ∧ a.va < 4294967296) (h2 : 0 ≤ a.satp ∧ a.satp < 4294967296) (h3 : 0 ≤ a.status ∧ a.status < 4294967296) : n ≤ 4096 ∧ a.Ok := by
  unfold rightB at h
  simp only [Bool.and_eq_true, Bool.or_eq_true, decide_eq_true_eq, beq_iff_eq] at h
  obtain ⟨g1, g2, g3, g4⟩ := h
  exact ⟨g1, h1.1, h1.2, h2.1, h2.2, h3.1, h3.2, by omega, by omega⟩
set_option maxHeartbeats 1000000 in
set_option maxRecDepth 100000 in
theorem right_c (w : World) (base : Int) (ad : Option Addr) (n cap : Nat) (a : Wk.Ask) : Calls Try.prog 10 #[ramv base ad n cap, .agg #[.int .u32 a.va, .int .u32 a.satp, .int .u32 a.status, .int .i64 a.access, .int .i64 a.priv]] w fun e w' => e = .returned (.bool (rightB n a)) ∧ Below w.heap.size w w' := by
  have key : (¬ n ≤ 4096) ∨ (n ≤ 4096 ∧ a.access < 0) ∨ (n ≤ 4096 ∧ 0 ≤ a.access ∧ 2 < a.access) ∨ (n ≤ 4096 ∧ 0 ≤ a.access ∧ a.access ≤ 2) := by omega
  rcases key with h | ⟨h, h2⟩ | ⟨h, h2, h3⟩ | ⟨h, h2, h3⟩
  · have e : rightB n a = false := by unfold rightB; simp [h]
    have h' : ¬ (n : Int) ≤ 4096 := by omega
    rw [e]
    go_enter Try.func10, Try.ntmps10
    go_wp2
    go_ret
    exact ⟨rfl, by repeat (first | exact Below.refl _ _ | apply Walk.below_al)⟩
  · have e : rightB n a = false := by unfold rightB; simp; omega
    have h' : (n : Int) ≤ 4096 := by omega
    rw [e]
    go_enter Try.func10, Try.ntmps10
    go_wp2
    go_ret
    exact ⟨rfl, by repeat (first | exact Below.refl _ _ | apply Walk.below_al)⟩
  · have e : rightB n a = false := by unfold rightB; simp; omega
    have h' : (n : Int) ≤ 4096 := by omega
    rw [e]
    go_enter Try.func10, Try.ntmps10
    go_wp2
    go_ret
    exact ⟨rfl, by repeat (first | exact Below.refl _ _ | apply Walk.below_al)⟩
  · have h' : (n : Int) ≤ 4096 := by omega
    have e : rightB n a = (a.priv == 0 || (a.priv == 1 || a.priv == 3)) := by unfold rightB; simp [h, h2, h3]
    rw [e]
    cases k0 : (a.priv == 0)
    · cases k1 : (a.priv == 1)
      · cases k3 : (a.priv == 3)
        all_goals
          go_enter Try.func10, Try.ntmps10
          go_wp2
          go_ret
          exact ⟨rfl, by repeat (first | exact Below.refl _ _ | apply Walk.below_al)⟩
      · go_enter Try.func10, Try.ntmps10
        go_wp2
        go_ret
        exact ⟨rfl, by repeat (first | exact Below.refl _ _ | apply Walk.below_al)⟩
    · go_enter Try.func10, Try.ntmps10
      go_wp2
      go_ret
      exact ⟨rfl, by repeat (first | exact Below.refl _ _ | apply Walk.below_al)⟩
set_option maxHeartbeats 1000000 in
set_option maxRecDepth 100000 in
theorem ram_c {w : World} {base : Int} (hb0 : 0 ≤ base) (hb1 : base < 4294967296) {ad : Option Addr} {n cap : Nat} {zs : List Int} (hW : Wd w ad n cap zs) (hn : n ≤ 4096) : Calls Try.prog 11 #[ramv base ad n cap] w fun e w' => ∃ g r a' k', e = .returned (.pointer (some ⟨g, 0, none⟩)) ∧ RamAt w w' g r base a' k' zs ∧ r < w'.heap.size := by
  have HW := fun o => hW.below (alloc1_below w o)
  obtain rfl : zs.length = n := hW.len
  have z0 := hW.z0
  have Z0 := Lib.hid z0
  clear z0 hW
  go_enter Try.func11, Try.ntmps11
  go_wp2_with fail
  obtain ⟨e0, B⟩ := alloc1_then (Below.refl _ (w.alloc (.cells #[.int .u32 base, .slice ad zs.length cap] 25)))
  replace HW := HW (.cells #[.int .u32 base, .slice ad zs.length cap] 25)
  have hsz : w.heap.size < (w.alloc (.cells #[.int .u32 base, .slice ad zs.length cap] 25)).heap.size := by simp
  generalize w.alloc (.cells #[.int .u32 base, .slice ad zs.length cap] 25) = wA at *
  obtain ⟨x0, x1, xf⟩ := cells2 e0
  have HWd := HW.below (below_drew wA)
  have hlt := (Array.getElem?_eq_some_iff.1 e0).1
  have E0 := Lib.hid e0
  clear e0
  go_region_held3 (fun W => W.cell? ⟨w.heap.size, 0, none⟩ = some (.int .u32 base) ∧ W.cell? ⟨w.heap.size, 1, none⟩ = some (.slice ad zs.length cap)) (first | exact ⟨x0, x1⟩ | exact ⟨Lib.cell?_alloc_some _ x0, Lib.cell?_alloc_some _ x1⟩) ((refine step_append_w rfl (.const (.slice none 0 0)) (.tmp 6) rfl wA.heap.size _ 0 [] rfl (World.ownsRow_nil _ _ _ _) rfl HWd (by omega) (Nat.le_refl _) ?_; intro v1 w1 o1 g1; rw [Nat.zero_add, List.nil_append] at o1; obtain ⟨r, a', kap', rfl, hr, hrow⟩ := ram_owns (w := w) o1 (by omega); have B1 := (below_drew wA).grown g1 (Nat.le_refl _) (by intro k hk; cases hk); clear x0 x1; obtain ⟨x0, x1, xf⟩ := cells2 ((B1.block _ hlt).trans E0.out)))
  go_wp2
  go_ret
  have hs := B1.size
  have BB : Below w.heap.size w (w1.alloc (.cells #[.int .u32 base, .slice a' zs.length kap'] 38)) := Below.then B (B1.alloc hs _)
  refine ⟨w1.heap.size, r, a', kap', rfl, ⟨BB, by omega, heap_alloc_new w1 _, ?_, hb0, hb1, Z0.out, hn⟩, by simp; omega⟩
  rcases hrow with h | ⟨h1, h2, h3, cur, h4, h5⟩
  · exact .inl h
  · exact .inr ⟨h1, h2, h3, cur, (Below.heap_alloc _ _ _ (Array.getElem?_eq_some_iff.1 h4).1).trans h4, h5⟩
end Kit15
end Go.Proofs.Ytejgaldeamjplaa
