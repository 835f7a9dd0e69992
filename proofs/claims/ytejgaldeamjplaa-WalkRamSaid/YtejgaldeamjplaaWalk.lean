/- Contracts of package walk: a memory's words. -/
import Derived.Test.YtejgaldeamjplaaRef1
import Derived.Test.YtejgaldeamjplaaWk
import Derived.Test.YtejgaldeamjplaaProg
namespace Go.Proofs.Ytejgaldeamjplaa
open Go.RowKit
set_option linter.unusedVariables false
/-- A memory that was made since w0: its struct at block g, its words at block r. -/
structure RamAt (w0 w : World) (g r : Nat) (base : Int) (a : Option Addr) (kap : Nat) (zs : List Int) : Prop where
  below : Below w0.heap.size w0 w
  lg : w0.heap.size ≤ g
  head : w.heap[g]? = some (.cells #[.int .u32 base, .slice a zs.length kap] 38 (0, 0))
  rows : (a = none ∧ zs.length = 0 ∧ kap = 0) ∨ (a = some ⟨r, 0, none⟩ ∧ w0.heap.size ≤ r ∧ ¬ r = g ∧ ∃ cur, w.heap[r]? = some (.cells cur 22 (0, 0)) ∧ ∀ i, i < zs.length → cur[i]? = some (.int .u32 (zs.getD i 0)))
  b0 : 0 ≤ base
  b1 : base < 4294967296
  z0 : ∀ i : Nat, 0 ≤ zs.getD i 0 ∧ zs.getD i 0 < 4294967296
  z1 : zs.length ≤ 4096
section
variable {w0 w w' : World} {g r : Nat} {base : Int} {a : Option Addr} {kap : Nat} {zs : List Int}
theorem RamAt.at_ (h : RamAt w0 w g r base a kap zs) {i : Nat} (hi : i < zs.length) : a = some ⟨r, 0, none⟩ ∧ w.cell? ⟨r, i, none⟩ = some (.int .u32 (zs.getD i 0)) ∧ w.frozen? ⟨r, i, none⟩ = false ∧ w0.heap.size ≤ r ∧ ¬ r = g := by
  rcases h.rows with ⟨_, e, _⟩ | ⟨e, l, n, cur, hc, hk⟩
  · omega
  · exact ⟨e, by simp only [World.cell?, hc]; exact hk i hi, by simp only [World.frozen?, hc]; simp, l, n⟩
theorem RamAt.cells (h : RamAt w0 w g r base a kap zs) : w.cell? ⟨g, 0, none⟩ = some (.int .u32 base) ∧ w.cell? ⟨g, 1, none⟩ = some (.slice a zs.length kap) := by
  have := h.head
  simp only [World.cell?, this]
  exact ⟨rfl, rfl⟩
theorem RamAt.lt (h : RamAt w0 w g r base a kap zs) : g < w.heap.size := (Array.getElem?_eq_some_iff.1 h.head).1
theorem RamAt.drewN (h : RamAt w0 w g r base a kap zs) (n : Nat) : RamAt w0 (w.drewN n) g r base a kap zs :=
  ⟨⟨h.below.os, h.below.tape, h.below.output, h.below.size, h.below.block⟩, h.lg, h.head, h.rows, h.b0, h.b1, h.z0, h.z1⟩
theorem Below.then {w0 w w' : World} (h : Below w0.heap.size w0 w) (hb : Below w.heap.size w w') : Below w0.heap.size w0 w' :=
  h.trans ⟨hb.os, hb.tape, hb.output, hb.size, fun k hk => hb.block k (Nat.lt_of_lt_of_le hk h.size)⟩
theorem RamAt.then (h : RamAt w0 w g r base a kap zs) (hb : Below w.heap.size w w') : RamAt w0 w' g r base a kap zs := by
  refine ⟨Below.then h.below hb, h.lg, (hb.block g h.lt).trans h.head, ?_, h.b0, h.b1, h.z0, h.z1⟩
  rcases h.rows with e | ⟨e, l, n, cur, hc, hk⟩
  · exact .inl e
  · exact .inr ⟨e, l, n, cur, (hb.block r (Array.getElem?_eq_some_iff.1 hc).1).trans hc, hk⟩
theorem getD_set_int (l : List Int) (i j : Nat) (v : Int) : (l.set i v).getD j 0 = if i = j ∧ i < l.length then v else l.getD j 0 := by
  by_cases h : i = j
  · subst h
    by_cases h2 : i < l.length
    · simp [List.getD, h2]
    · simp [List.getD, h2]
  · simp [List.getD, h]
theorem RamAt.put (h : RamAt w0 w g r base a kap zs) {i : Nat} (hi : i < zs.length) {v : Int} (hv : 0 ≤ v) (hv' : v < 4294967296) : RamAt w0 (w.setCell ⟨r, i, none⟩ (.int .u32 v)) g r base a kap (zs.set i v) := by
  rcases h.rows with ⟨_, e, _⟩ | ⟨e, l, n, cur, hc, hk⟩
  · omega
  · refine ⟨h.below.setCell l _, h.lg, (Below.heap_setCell _ _ _ _ (fun e => n e.symm)).trans (by rw [List.length_set]; exact h.head), ?_, h.b0, h.b1, ?_, by rw [List.length_set]; exact h.z1⟩
    · refine .inr ⟨e, l, n, cur.setIfInBounds i (.int .u32 v), ?_, ?_⟩
      · simp only [World.setCell, Array.getElem?_modify, if_true, hc, Option.map_some]; rfl
      · intro j hj
        rw [List.length_set] at hj
        rw [getD_set_int, Array.getElem?_setIfInBounds]
        by_cases e : i = j
        · subst e
          have := (Array.getElem?_eq_some_iff.1 (hk i hi)).1
          rw [if_pos rfl, if_pos this, if_pos ⟨rfl, hi⟩]
        · rw [if_neg e, if_neg (fun h => e h.1)]; exact hk j hj
    · intro j
      rw [getD_set_int]
      split
      · exact ⟨hv, hv'⟩
      · exact h.z0 j
end
namespace Walk
def placed (r : Nat) : Option Nat → Value | some i => .tuple #[.pointer (some ⟨r, i, none⟩), .bool true] | none => .tuple #[.pointer none, .bool false]
section
variable {w0 w w' : World} {g r : Nat} {base : Int} {a : Option Addr} {kap : Nat} {zs : List Int}
theorem place_cases {base : Int} {n : Nat} {x : Int} (hx : 0 ≤ x) (hx' : x < 4294967296) (hb : 0 ≤ base) (q : Wk.place base n x = none) :
    x < base ∨ (base ≤ x ∧ ¬ x % 4 = 0) ∨ (base ≤ x ∧ x % 4 = 0 ∧ ¬ (x - base) % 4 = 0) ∨ (base ≤ x ∧ x % 4 = 0 ∧ (x - base) % 4 = 0 ∧ (n : Int) ≤ (x - base) / 4) := by
  unfold Wk.place at q
  split at q
  · cases q
  · omega
set_option maxRecDepth 100000 in
theorem place_none (h : RamAt w0 w g r base a kap zs) {x : Int} (hx : 0 ≤ x) (hx' : x < 4294967296) (q : Hid (Wk.place base zs.length x = none)) :
    Calls Try.prog 26 #[.pointer (some ⟨g, 0, none⟩), .int .u32 x] w fun e w' => e = .returned (.tuple #[.pointer none, .bool false]) ∧ w = w' := by
  obtain ⟨c0, c1⟩ := h.cells
  have hb := h.b0
  have hb' := h.b1
  have hz : (zs.length : Int) ≤ 4096 := by have := h.z1; omega
  rcases place_cases hx hx' hb q.out with h1 | ⟨h1, h2⟩ | ⟨h1, h2, h3⟩ | ⟨h1, h2, h3, h4⟩
  · go_enter Try.func26, Try.ntmps26
    go_wp2
    go_ret2
    exact ⟨rfl, rfl⟩
  · have e2 : (x % 4 != 0) = true := by rw [bne_iff_ne]; exact h2
    clear h2
    go_enter Try.func26, Try.ntmps26
    go_wp2
    go_ret2
    exact ⟨rfl, rfl⟩
  · have e2 : (x % 4 != 0) = false := by rw [h2]; rfl
    have e3 : ((x - base) % 4 != 0) = true := by rw [bne_iff_ne]; exact h3
    clear h2 h3
    go_enter Try.func26, Try.ntmps26
    go_wp2
    go_ret2
    exact ⟨rfl, rfl⟩
  · have e2 : (x % 4 != 0) = false := by rw [h2]; rfl
    have e3 : ((x - base) % 4 != 0) = false := by rw [h3]; rfl
    clear h2 h3
    go_enter Try.func26, Try.ntmps26
    go_wp2
    go_ret2
    exact ⟨rfl, rfl⟩
set_option maxRecDepth 100000 in
theorem place_some (h : RamAt w0 w g r base a kap zs) {x : Int} (hx : 0 ≤ x) (hx' : x < 4294967296) {i : Nat} (q : Hid (Wk.place base zs.length x = some i)) :
    Calls Try.prog 26 #[.pointer (some ⟨g, 0, none⟩), .int .u32 x] w fun e w' => e = .returned (.tuple #[.pointer (some ⟨r, i, none⟩), .bool true]) ∧ w = w' := by
  obtain ⟨c0, c1⟩ := h.cells
  have hb := h.b0
  have hb' := h.b1
  have hz : (zs.length : Int) ≤ 4096 := by have := h.z1; omega
  obtain ⟨hi, ex, _, h2, h1⟩ := Wk.place_lt q.out
  obtain ⟨rfl, c2, _⟩ := h.at_ hi
  have e2 : (x % 4 != 0) = false := by rw [h2]; rfl
  have h3 : (x - base) % 4 = 0 := by omega
  have e3 : ((x - base) % 4 != 0) = false := by rw [h3]; rfl
  have h5 : (x - base) / 4 < (zs.length : Int) := by omega
  have h6 : 0 ≤ (x - base) / 4 := by omega
  have E := Lib.hid (show ((x - base) / 4).toNat = i by omega)
  clear h2 h3 ex
  go_enter Try.func26, Try.ntmps26
  go_wp2
  go_ret2
  exact ⟨by rw [← E.out]; rfl, rfl⟩
set_option maxRecDepth 100000 in
theorem word_none (h : RamAt w0 w g r base a kap zs) {x : Int} (hx : 0 ≤ x) (hx' : x < 4294967296) (q : Hid (Wk.place base zs.length x = none)) :
    Calls Try.prog 15 #[.pointer (some ⟨g, 0, none⟩), .int .u32 x] w fun e w' => e = .returned (.tuple #[.int .u32 0, .bool false]) ∧ w = w' := by
  go_enter Try.func15, Try.ntmps15
  go_wp2_with (go_at_call 26; refine (place_none h hx hx' q).mono ?_; rintro e w' ⟨rfl, rfl⟩)
  go_ret2
  exact ⟨rfl, rfl⟩
set_option maxRecDepth 100000 in
theorem word_some (h : RamAt w0 w g r base a kap zs) {x : Int} (hx : 0 ≤ x) (hx' : x < 4294967296) {i : Nat} (q : Hid (Wk.place base zs.length x = some i)) :
    Calls Try.prog 15 #[.pointer (some ⟨g, 0, none⟩), .int .u32 x] w fun e w' => e = .returned (.tuple #[.int .u32 (zs.getD i 0), .bool true]) ∧ w = w' := by
  obtain ⟨_, c2, _⟩ := h.at_ (Wk.place_lt q.out).1
  go_enter Try.func15, Try.ntmps15
  go_wp2_with (go_at_call 26; refine (place_some h hx hx' q).mono ?_; rintro e w' ⟨rfl, rfl⟩)
  go_ret2
  exact ⟨rfl, rfl⟩
set_option maxRecDepth 100000 in
theorem put_none (h : RamAt w0 w g r base a kap zs) {x v : Int} (hx : 0 ≤ x) (hx' : x < 4294967296) (q : Hid (Wk.place base zs.length x = none)) :
    Calls Try.prog 17 #[.pointer (some ⟨g, 0, none⟩), .int .u32 x, .int .u32 v] w fun e w' => e = .returned (.bool false) ∧ w = w' := by
  go_enter Try.func17, Try.ntmps17
  go_wp2_with (go_at_call 26; refine (place_none h hx hx' q).mono ?_; rintro e w' ⟨rfl, rfl⟩)
  go_ret
  exact ⟨rfl, rfl⟩
set_option maxRecDepth 100000 in
theorem put_some (h : RamAt w0 w g r base a kap zs) {x v : Int} (hx : 0 ≤ x) (hx' : x < 4294967296) (hv : 0 ≤ v) (hv' : v < 4294967296) {i : Nat} (q : Hid (Wk.place base zs.length x = some i)) :
    Calls Try.prog 17 #[.pointer (some ⟨g, 0, none⟩), .int .u32 x, .int .u32 v] w fun e w' => e = .returned (.bool true) ∧ RamAt w0 w' g r base a kap (zs.set i v) := by
  obtain ⟨_, c2, f2, _⟩ := h.at_ (Wk.place_lt q.out).1
  go_enter Try.func17, Try.ntmps17
  go_wp2_with (go_at_call 26; refine (place_some h hx hx' q).mono ?_; rintro e w' ⟨rfl, rfl⟩)
  go_ret
  exact ⟨rfl, h.put (Wk.place_lt q.out).1 hv hv'⟩
end
/-! Entries: their bits. -/
theorem and_any {x m : Int} (hx : 0 ≤ x) (hx' : x < 4294967296) (hm : 0 ≤ m) (hm' : m < 4294967296) : (bits .and .u32 x m != 0) = (List.range 32).any fun i => Bt.tb x i && Bt.tb m i := by
  obtain ⟨r0, r1⟩ := Bt.rng_and hx hx' hm hm'
  rw [Bool.eq_iff_iff, bne_iff_ne, List.any_eq_true]
  constructor
  · intro h
    apply Classical.byContradiction
    intro hn
    apply h
    refine Bt.ext r0 r1 (by decide) (by decide) fun i hi hi' => ?_
    rw [Bt.tb_and hx hx' hm hm', Bt.tb_zero]
    cases hb : (Bt.tb x i && Bt.tb m i)
    · rfl
    · exact absurd ⟨i.toNat, List.mem_range.2 (by omega), by rw [Int.toNat_of_nonneg hi]; exact hb⟩ hn
  · rintro ⟨i, hi, hb⟩ he
    have := Bt.tb_and hx hx' hm hm' (i : Int)
    rw [he, Bt.tb_zero, hb] at this
    cases this
end Walk
end Go.Proofs.Ytejgaldeamjplaa
