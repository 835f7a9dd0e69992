/- The reference's chip: Of. -/
import Derived.Test.YtmaakjabjpppkaaRnor8
import Derived.Test.YtmaakjabjpppkaaOf
import Derived.Deep.RegionLaw
namespace Go.Proofs.Ytmaakjabjpppkaa
open Go.RowKit
set_option linter.unusedVariables false
attribute [local go_sem] max2_int min2_int max_two min_two
namespace Rnor
theorem grown_block {w w' : World} {o : Option Nat} (g : w.grownBy w' o) {r : Nat} (hr : r < w.heap.size) (hn : o ≠ some r) : w'.heap[r]? = w.heap[r]? := g.block r hr fun e => hn e.symm
theorem sz_al {w : World} {k : Nat} (h : k ≤ w.heap.size) (o : Obj) : k ≤ (w.alloc o).heap.size := by simp; omega
theorem two1 (w : World) (A B : Obj) : ((w.alloc A).alloc B).drew.heap[w.heap.size + 1]? = some B := by
  have := heap_alloc_new (w.alloc A) B
  have e : (w.alloc A).heap.size = w.heap.size + 1 := by simp
  rw [e] at this
  exact this
theorem two0 (w : World) (A B : Obj) : ((w.alloc A).alloc B).drew.heap[w.heap.size]? = some A := (alloc1_then (Below.refl _ _)).1 |> fun h => (Below.heap_alloc _ _ _ (Array.getElem?_eq_some_iff.1 h).1).trans h
theorem one0 (w : World) (A : Obj) : (w.alloc A).drew.heap[w.heap.size]? = some A := heap_alloc_new w A
theorem own_made {w : World} {B g : Nat} (h : w.heap[g]? = some (.cells #[] 22 (0, 0))) (hb : B ≤ g) : w.ownsRow B 22 1 (.slice (some ⟨g, 0, none⟩) 0 0) 0 (([] : List Int).map (Value.int .u32)) := ⟨rfl, .inr ⟨g, 0, #[], rfl, hb, h, Nat.le_refl _, Nat.zero_le _, rfl, rfl⟩⟩
/-- The same append, as one step of a region that draws. -/
theorem step_append_r {w : World} {ops : Array Oper} {o : Oper} {a : Act} {K : Act → World → Prop} {Q : Exit → Act → World → Prop} {E : Prop} (hgd : o.guard = none) (s x : Operand)
    (ho : o.op = .call { callee := .builtin .append, args := #[s, x], argTypes := #[33, 33] })
    (base : Nat) (v : Value) (n : Nat) (xs : List Int) (hs : a.eval s = v) (hown : w.ownsRow base 22 1 v n (xs.map (Value.int .u32)))
    {b off m c : Nat} {zs : List Int} (hx : a.eval x = .slice (some ⟨b, off, none⟩) m c) (hl : zs.length = m) (hc : ∀ i, i < m → w.cell? ⟨b, off + i, none⟩ = some (.int .u32 (zs.getD i 0))) (hbig : n + m ≤ 100000) (hbase : base ≤ w.heap.size)
    (h : ∀ v' w', w'.ownsRow base 22 1 v' (n + m) ((xs ++ zs).map (Value.int .u32)) → w.grownBy w' v.ownBlock → (∀ k, v.ownBlock = some k → base ≤ k) → (∀ r x, w.heap[r]? = some x → v.ownBlock ≠ some r → w'.heap[r]? = some x) → K (a.put o.dst v') w') :
    if Region.wanted o (yielded ops a.tmps) = true then Oper.wp Try.prog o a w K Q else E := by
  obtain ⟨i0, hi, hz0, hz1, hz2⟩ := info_parts Sl.info32
  rw [if_pos (by simp [Region.wanted, hgd])]
  refine wp_append_own w s x _ ho base 22 i0 (.int .u32 0) 1 4 Sl.under32 hi hz0 hz1 hz2 rfl (by decide) v n _ hs hown ⟨b, off, none⟩ m c (zs.map (Value.int .u32)) hx (by simp [hl]) ?_ ?_ (by unfold maxLen; omega) (by omega) hbase ?_
  · intro j u hj
    have hjn : j < zs.length := by
      have := (List.getElem?_eq_some_iff.1 hj).1
      simpa using this
    rw [Addr.add_lit, hc j (by omega)]
    have e : (zs.map (Value.int .u32))[j]? = some (Value.int .u32 (zs.getD j 0)) := by simp [List.getD, hjn]
    rw [e] at hj
    exact hj
  · intro u hu; obtain ⟨x, _, rfl⟩ := List.mem_map.1 hu; rfl
  · intro v' w' h1 h2 _
    exact h v' w' (by simpa using h1) h2 (fun k hk => (World.ownsRow.lt hown k hk).1) fun r x hx hn => (grown_block h2 (Array.getElem?_eq_some_iff.1 hx).1 hn).trans hx
theorem Below.trans' {w wA w1 : World} (h : Below w.heap.size w wA) (b : Below (w.heap.size + 1) wA w1) : Below w.heap.size w w1 := h.trans ⟨b.os, b.tape, b.output, b.size, fun k hk => b.block k (Nat.lt_succ_of_lt hk)⟩
theorem Row.al {w : World} {a : Nat} {zs : List Int} (h : Row w a zs) (o : Obj) : Row (w.alloc o) a zs := h.below (alloc1_below w o)
theorem heap_al {w : World} {a : Nat} {x : Obj} (h : w.heap[a]? = some x) (o : Obj) : (w.alloc o).heap[a]? = some x := (Below.heap_alloc _ _ _ (Array.getElem?_eq_some_iff.1 h).1).trans h
theorem of_end {w W : World} {a ka be n : Nat} {zs : List Int} {endure : Int} {c : Nr.C} (h1 : 1 ≤ n) (h2 : n ≤ 64) (hl : zs.length = 64 * n) (he : 0 ≤ endure) (hr : ∀ i, 0 ≤ zs.getD i 0 ∧ zs.getD i 0 < 4294967296) (he2 : endure ≤ 9223372036854775807) (q : Nr.of_ zs endure = c)
    (hbox : W.heap[w.heap.size]? = some (.cells #[.slice none 0 0, .slice none 0 0, .int .i64 0, .int .i64 0, .int .u32 0, .bool false] 49 (0, 0))) (hrow : Row W a zs) (hka : 64 * n ≤ ka) (hbe : W.heap[be]? = some (.cells (madeCells #[.int .i64 0] n) 3 (0, 0))) (hB : Below w.heap.size w W) (la : w.heap.size + 1 ≤ a) (lb : w.heap.size + 1 ≤ be) :
    ∃ x kx y ky, Ending.returned (Value.agg #[.slice (some ⟨a, 0, none⟩) (64 * n) ka, .slice (some ⟨be, 0, none⟩) n n, .int .i64 endure, .int .i64 0, .int .u32 0, .bool false]) = .returned (rv x kx y ky c) ∧
      RAt ((((((W.setCell ⟨w.heap.size, 0, none⟩ (.slice (some ⟨a, 0, none⟩) (64 * n) ka)).setCell ⟨w.heap.size, 1, none⟩ (.slice (some ⟨be, 0, none⟩) n n)).setCell ⟨w.heap.size, 2, none⟩ (.int .i64 endure)).setCell ⟨w.heap.size, 3, none⟩ (.int .i64 0)).setCell ⟨w.heap.size, 4, none⟩ (.int .u32 0)).setCell ⟨w.heap.size, 5, none⟩ (.bool false)) x kx y ky c ∧ w.heap.size ≤ x ∧ w.heap.size ≤ y ∧
      Below w.heap.size w ((((((W.setCell ⟨w.heap.size, 0, none⟩ (.slice (some ⟨a, 0, none⟩) (64 * n) ka)).setCell ⟨w.heap.size, 1, none⟩ (.slice (some ⟨be, 0, none⟩) n n)).setCell ⟨w.heap.size, 2, none⟩ (.int .i64 endure)).setCell ⟨w.heap.size, 3, none⟩ (.int .i64 0)).setCell ⟨w.heap.size, 4, none⟩ (.int .u32 0)).setCell ⟨w.heap.size, 5, none⟩ (.bool false)) := by
  have ok := Nor.of_ok h1 h2 hl he hr he2
  rw [q] at ok
  subst q
  have hd : zs.length / 64 = n := by omega
  refine ⟨a, ka, be, n, ?_, ⟨ok, ?_, ?_, ?_, ?_⟩, by omega, by omega, put6_below hB (Nat.le_refl _) _ _ _ _ _ _⟩
  · simp [rv, Nr.of_, hl]
  · show zs.length ≤ ka
    omega
  · simp [Nr.of_, hd]
  · obtain ⟨cur, ea, hc⟩ := hrow
    exact ⟨cur, (put6_away (by omega) _ _ _ _ _ _).trans ea, hc⟩
  · refine ⟨_, (put6_away (by omega) _ _ _ _ _ _).trans hbe, fun i hi => ?_⟩
    simp only [Nr.of_, hd, List.length_replicate] at hi
    simp only [Nr.of_, hd, Nr.getD_replicate, if_pos hi]
    simp [madeCells, hi, Nat.mod_one]
set_option maxHeartbeats 1000000 in
set_option maxRecDepth 100000 in
theorem of_c {w : World} {b kap n : Nat} {zs : List Int} {endure : Int} (h1 : 1 ≤ n) (h2 : n ≤ 64) (hl : zs.length = 64 * n) (he : 0 ≤ endure) (hr : ∀ i, 0 ≤ zs.getD i 0 ∧ zs.getD i 0 < 4294967296)
    (he2 : endure ≤ 9223372036854775807) (hR : Row w b zs) {c : Nr.C} (q : Hid (Nr.of_ zs endure = c)) :
    Calls Try.prog 33 #[.slice (some ⟨b, 0, none⟩) (64 * n) kap, .int .i64 endure] w fun e w' => ∃ a kap a2 kap2, e = .returned (rv a kap a2 kap2 c) ∧ RAt w' a kap a2 kap2 c ∧ w.heap.size ≤ a ∧ w.heap.size ≤ a2 ∧ Below w.heap.size w w' := by
  have HE := Lib.hid he2
  have hl2 : ((64 * n : Nat) : Int) = 64 * (n : Int) := by omega
  have hd : (64 * (n : Int)).tdiv 64 = n := by rw [Int.tdiv_eq_ediv_of_nonneg (by omega)]; omega
  have hm : (64 * (n : Int)).tmod 64 = 0 := by rw [Int.tmod_eq_emod_of_nonneg (by omega)]; omega
  have HR := Lib.hid hr
  have HL := Lib.hid hl
  have hmk := run_make_row' (P := Try.prog) 47 3 (.int .i64 0) 8 Nor.underI Nor.infoI rfl .i64 .i64 n (by omega) (by omega)
  have HA : Hid (∀ o, Row (w.alloc o).drew b zs) := Lib.hid fun o => (Row.al hR o).below (drew_below (Below.refl _ _))
  clear hR he2 hr hl
  go_enter Try.func33, Try.ntmps33
  go_wp2
  have hsz : (w.alloc (.cells #[.slice none 0 0, .slice none 0 0, .int .i64 0, .int .i64 0, .int .u32 0, .bool false] 49)).heap.size = w.heap.size + 1 := by simp
  have E0 := Lib.hid (heap_alloc_new w (.cells #[.slice none 0 0, .slice none 0 0, .int .i64 0, .int .i64 0, .int .u32 0, .bool false] 49))
  have B0 := alloc1_below w (.cells #[.slice none 0 0, .slice none 0 0, .int .i64 0, .int .i64 0, .int .u32 0, .bool false] 49)
  replace HA := Lib.hid (HA.out (.cells #[.slice none 0 0, .slice none 0 0, .int .i64 0, .int .i64 0, .int .u32 0, .bool false] 49))
  generalize w.alloc (.cells #[.slice none 0 0, .slice none 0 0, .int .i64 0, .int .i64 0, .int .u32 0, .bool false] 49) = wA at *
  have HZ := Lib.hid hsz
  clear hsz
  have HY : w.heap.size + 1 ≤ wA.heap.size := Nat.le_of_eq HZ.out.symm
  go_region_law (refine step_append_r rfl (.tmp 26) (.tmp 27) rfl (w.heap.size + 1) _ 0 [] rfl (by first | exact own_made (one0 _ _) HY | exact own_made (two0 _ _ _) HY | exact own_made (two1 _ _ _) (Nat.le_succ_of_le HY)) (b := b) (off := 0) (m := 64 * n) (zs := zs) rfl HL.out (fun i hi => by rw [Nat.zero_add]; exact Row.cell (by repeat (first | exact HA.out | apply Row.al)) (by rw [HL.out]; exact hi)) (by omega) (by repeat (first | exact HY | refine sz_al ?_ _)) ?_; intro v1 w1 o1 g1 g2 g3; rw [Nat.zero_add, List.nil_append] at o1; obtain ⟨a, ka, rfl, p1, p2, p3, p4⟩ := row_own o1 (by omega); have B1 : Below (w.heap.size + 1) wA w1 := Below.grown (w := _) (by repeat (first | exact Below.refl _ _ | refine drew_below ?_ | refine Below.alloc ?_ (by repeat (first | exact HY | refine sz_al ?_ _)) _)) g1 (by repeat (first | exact HY | refine sz_al ?_ _)) g2; clear g1 g2 p3 o1; have E1 := Lib.hid ((B1.block w.heap.size (Nat.lt_succ_self _)).trans E0.out); obtain ⟨x0, x1, x2, x3, x4, x5, xf⟩ := cells6 E1.out; have yy := fun o => cells6 (heap_al E1.out o))
  all_goals go_wp2
  all_goals have BB := Below.trans' B0 B1
  all_goals refine bodyPost_ret (retC rfl _ _ w.heap.size _ rfl (put6 (by first | exact E1.out | exact heap_al E1.out _) _ _ _ _ _ _) rfl) rfl ?_
  · exact of_end h1 h2 HL.out he HR.out HE.out q.out (heap_al E1.out _) (Row.al p4 _) p1 (heap_alloc_new w1 _) (BB.alloc BB.size _) p2 (by have := B1.size; omega)
  · exact of_end h1 h2 HL.out he HR.out HE.out q.out E1.out p4 p1 (g3 _ _ (two1 _ _ _) (by intro h; have h' : some wA.heap.size = some (wA.heap.size + 1) := h; simp at h')) BB p2 (by omega)
  · exact of_end h1 h2 HL.out he HR.out HE.out q.out E1.out p4 p1 (g3 _ _ (two0 _ _ _) (by intro h; have h' : some (wA.heap.size + 1) = some wA.heap.size := h; simp at h')) BB p2 (by omega)
end Rnor
end Go.Proofs.Ytmaakjabjpppkaa
