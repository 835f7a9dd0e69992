/- The reference's chip: contracts of package dioptraref02. -/
import Derived.Test.YtmaakjabjpppkaaNrR
import Derived.Test.YtmaakjabjpppkaaSl
namespace Go.Proofs.Ytmaakjabjpppkaa
open Go.RowKit
set_option linter.unusedVariables false
attribute [local go_sem] max2_int min2_int max_two min_two
namespace Rnor
theorem row_own {w : World} {B n : Nat} {v : Value} {zs : List Int} (h : w.ownsRow B 22 1 v n (zs.map (Value.int .u32))) (hn : 0 < n) :
    ∃ a kap, v = .slice (some ⟨a, 0, none⟩) n kap ∧ n ≤ kap ∧ B ≤ a ∧ zs.length = n ∧ Row w a zs := by
  obtain ⟨h1, ⟨rfl, rfl⟩ | ⟨g, cap, cur, rfl, hb, hg, hc, hm, hs, ht⟩⟩ := h
  · omega
  · have hl : zs.length = n := by simpa using h1
    refine ⟨g, cap, rfl, hc, hb, hl, cur, hg, fun i hi => ?_⟩
    have e : (cur.toList.take (n * 1))[i]? = (zs.map (Value.int .u32))[i]? := by rw [ht]
    rw [List.getElem?_take, if_pos (by omega), List.getElem?_map, List.getElem?_eq_getElem hi] at e
    rw [← Array.getElem?_toList, e]
    simp [List.getD, hi]
/-- Words behind one another are appended to a row of the call's own. -/
theorem append_r {w : World} {ops : Array Oper} {rest : List Oper} {o : Oper} {a : Act} {Q : Exit → Act → World → Prop} (hgd : Region.wanted o (yielded ops a.tmps) = true) (s x : Operand)
    (ho : o.op = .call { callee := .builtin .append, args := #[s, x], argTypes := #[33, 33] })
    (base : Nat) (v : Value) (n : Nat) (xs : List Int) (hs : a.eval s = v) (hown : w.ownsRow base 22 1 v n (xs.map (Value.int .u32)))
    {b off m c : Nat} {zs : List Int} (hx : a.eval x = .slice (some ⟨b, off, none⟩) m c) (hl : zs.length = m) (hc : ∀ i, i < m → w.cell? ⟨b, off + i, none⟩ = some (.int .u32 (zs.getD i 0))) (hbig : n + m ≤ 100000) (hbase : base ≤ w.heap.size)
    (h : ∀ v' w', w'.ownsRow base 22 1 v' (n + m) ((xs ++ zs).map (Value.int .u32)) → w.grownBy w' v.ownBlock → wpList Try.prog ops Q rest (a.put o.dst v') w') : wpList Try.prog ops Q (o :: rest) a w := by
  obtain ⟨i0, hi, hz0, hz1, hz2⟩ := info_parts Sl.info32
  refine wpList_step fun K hK => ?_
  rw [if_pos hgd]
  refine wp_append_own w s x _ ho base 22 i0 (.int .u32 0) 1 4 Sl.under32 hi hz0 hz1 hz2 rfl (by decide) v n _ hs hown ⟨b, off, none⟩ m c (zs.map (Value.int .u32)) hx (by simp [hl]) ?_ ?_ (by unfold maxLen; omega) (by omega) hbase ?_
  · intro j u hj
    have hjn : j < zs.length := by
      have := (List.getElem?_eq_some_iff.1 hj).1
      simpa using this
    rw [Addr.add_lit, hc j (by omega)]
    have e : (zs.map (Value.int .u32))[j]? = some (Value.int .u32 (zs.getD j 0)) := by simp [List.getD, hjn]
    rw [e] at hj
    exact hj
  · intro u hu; obtain ⟨x, _, rfl⟩ := List.mem_map.1 hu; rfl
  · intro v' w' h1 h2 _
    exact hK _ _ (h v' w' (by simpa using h1) h2)
theorem src_take {w : World} {b m : Nat} {zs : List Int} (h : Row w b zs) (hm : m < zs.length) (i : Nat) (hi : i < m) : w.cell? ⟨b, 0 + i, none⟩ = some (.int .u32 ((zs.take m).getD i 0)) := by
  rw [Nat.zero_add, h.cell (show i < zs.length by omega)]
  simp [List.getD, hi]
theorem src_drop {w : World} {b m : Nat} {zs : List Int} (h : Row w b zs) (i : Nat) (hi : i < zs.length - m) : w.cell? ⟨b, m + i, none⟩ = some (.int .u32 ((zs.drop m).getD i 0)) := by
  rw [h.cell (show m + i < zs.length by omega)]
  simp [List.getD]
/-- A row that came of one made by the call: nothing that was there has turned. -/
theorem made_grown {w w' : World} {o : Obj} {k m : Nat} (g : (w.alloc o).grownBy w' (Value.slice (some ⟨w.heap.size, 0, none⟩) k m).ownBlock) : Below w.heap.size w w' :=
  ((Below.refl _ w).alloc (Nat.le_refl _) o).grown g (by simp) (by intro k hk; simp [Value.ownBlock] at hk; omega)
theorem own_grown {w0 w w' : World} {B n : Nat} {v : Value} {l : List Value} (hb : Below B w0 w) (hB : B ≤ w.heap.size) (h : w.ownsRow B 22 1 v n l) (g : w.grownBy w' v.ownBlock) : Below B w0 w' :=
  hb.grown g hB (fun k hk => (World.ownsRow.lt h k hk).1)
theorem one_cell (w : World) (v : Int) (i : Nat) (hi : i < 1) : (w.alloc (.cells #[.int .u32 v] 22)).cell? ⟨w.heap.size, 0 + i, none⟩ = some (.int .u32 ([v].getD i 0)) := by
  obtain rfl : i = 0 := by omega
  exact World.cell?_alloc_mark w #[.int .u32 v] 22 (0, 0) 0
set_option maxHeartbeats 2000000 in
set_option maxRecDepth 100000 in
theorem put_c {w : World} {b k m : Nat} {v : Int} {zs : List Int} (hm : m < zs.length) (hk : zs.length ≤ k) (hbig : zs.length ≤ 4096) (hr : Row w b zs) :
    Calls Try.prog 53 #[.slice (some ⟨b, 0, none⟩) zs.length k, .int .i64 m, .int .u32 v] w fun e w' => ∃ a kap, e = .returned (.slice (some ⟨a, 0, none⟩) zs.length kap) ∧ zs.length ≤ kap ∧ w.heap.size ≤ a ∧ Row w' a (zs.set m v) ∧ Below w.heap.size w w' := by
  have hm1 : (m : Int) < (zs.length : Int) := by omega
  have hk1 : (zs.length : Int) ≤ (k : Int) := by omega
  have hb1 : (zs.length : Int) ≤ 4096 := by omega
  have ha : ∀ o, Row (w.alloc o) b zs := fun o => hr.below ((Below.refl _ _).alloc (Nat.le_refl _) o)
  have HA := Lib.hid ha
  have HR := Lib.hid hr
  clear hr ha
  have e1 : (zs.take m).length = m := by simp; omega
  have e2 : (zs.drop (m + 1)).length = zs.length - (m + 1) := by simp
  by_cases hkm : k = m + 1
  · have hz : zs.length = m + 1 := by omega
    go_enter Try.func53, Try.ntmps53
    go_wp2_with (first
      | (at_builtin; refine append_r (by go_simp) _ _ rfl w.heap.size _ 0 [] rfl (World.ownsRow_made w #[] 0 (Nat.le_refl _) (Nat.zero_le _) rfl) (b := b) (off := 0) (m := m) (zs := zs.take m) rfl e1 (src_take (HA.out _) hm) (by omega) (by simp) ?_; intro v1 w1 o1 g1; rw [Nat.zero_add, List.nil_append] at o1; have B1 := made_grown g1; clear g1; have B0 := B1.size)
      | (at_builtin; refine append_r (by go_simp) _ _ rfl w.heap.size _ m _ rfl (o1.alloc _) (b := w1.heap.size) (off := 0) (m := 1) (zs := [v]) rfl rfl (one_cell w1 v) (by omega) (by simp; omega) ?_; intro v2 w2 o2 g2; have B2 := own_grown (B1.alloc B0 _) (by simp; omega) (o1.alloc _) g2; clear g2 B1 o1; have B3 := B2.size)
      | (at_builtin; refine append_r (by go_simp) _ _ rfl w.heap.size _ (m + 1) _ rfl o2 (zs := zs.drop (m + 1)) rfl (by omega) (fun i hi => absurd hi (by omega)) (by omega) B3 ?_; intro v3 w3 o3 g3; have B4 := own_grown B2 B3 o2 g3; clear g3 B2 o2))
    go_ret
    rw [Nr.put_list _ _ _ hm, show m + 1 + 0 = zs.length by omega] at o3
    obtain ⟨a, kap, rfl, h1, h2, h3, h4⟩ := row_own o3 (by omega)
    exact ⟨a, kap, rfl, h1, h2, h4, B4⟩
  · have hkm2 : m + 1 < k := by omega
    go_enter Try.func53, Try.ntmps53
    go_wp2_with (first
      | (at_builtin; refine append_r (by go_simp) _ _ rfl w.heap.size _ 0 [] rfl (World.ownsRow_made w #[] 0 (Nat.le_refl _) (Nat.zero_le _) rfl) (b := b) (off := 0) (m := m) (zs := zs.take m) rfl e1 (src_take (HA.out _) hm) (by omega) (by simp) ?_; intro v1 w1 o1 g1; rw [Nat.zero_add, List.nil_append] at o1; have B1 := made_grown g1; clear g1; have B0 := B1.size)
      | (at_builtin; refine append_r (by go_simp) _ _ rfl w.heap.size _ m _ rfl (o1.alloc _) (b := w1.heap.size) (off := 0) (m := 1) (zs := [v]) rfl rfl (one_cell w1 v) (by omega) (by simp; omega) ?_; intro v2 w2 o2 g2; have B2 := own_grown (B1.alloc B0 _) (by simp; omega) (o1.alloc _) g2; clear g2 B1 o1; have B3 := B2.size)
      | (at_builtin; refine append_r (by go_simp) _ _ rfl w.heap.size _ (m + 1) _ rfl o2 (b := b) (off := m + 1) (m := zs.length - (m + 1)) (zs := zs.drop (m + 1)) rfl e2 (src_drop (HR.out.below B2)) (by omega) B3 ?_; intro v3 w3 o3 g3; have B4 := own_grown B2 B3 o2 g3; clear g3 B2 o2))
    go_ret
    rw [Nr.put_list _ _ _ hm, show m + 1 + (zs.length - (m + 1)) = zs.length by omega] at o3
    obtain ⟨a, kap, rfl, h1, h2, h3, h4⟩ := row_own o3 (by omega)
    exact ⟨a, kap, rfl, h1, h2, h4, B4⟩
end Rnor
end Go.Proofs.Ytmaakjabjpppkaa
