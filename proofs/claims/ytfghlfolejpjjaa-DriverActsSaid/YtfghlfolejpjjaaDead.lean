/- Chips that no call made, calls of Of and New that make none, and dioptraref01.Words at words that are alike. -/
import Derived.Test.YtfghlfolejpjjaaOwn
namespace Go.Proofs.Ytfghlfolejpjjaa
open Go.RowKit
set_option linter.unusedVariables false
attribute [local go_sem] max2_int min2_int max_two min_two
/-- Nothing, or a struct of zeros. -/
def Dead (w : World) (p : Option Addr) : Prop := p = none ∨ ∃ g, p = some ⟨g, 0, none⟩ ∧ w.heap[g]? = some (.cells #[.slice none 0 0, .slice none 0 0, .int .i64 0, .int .i64 0, .int .u32 0, .bool false] 80 (0, 0))
theorem Dead.below {w w' : World} {p : Option Addr} (h : Dead w p) (hb : Below w.heap.size w w') : Dead w' p := by
  rcases h with h | ⟨g, h, hg⟩
  · exact .inl h
  · exact .inr ⟨g, h, by rw [hb.block g (Array.getElem?_eq_some_iff.1 hg).1]; exact hg⟩
namespace Nor
theorem dead_cells {w : World} {g : Nat} (hg : w.heap[g]? = some (.cells #[.slice none 0 0, .slice none 0 0, .int .i64 0, .int .i64 0, .int .u32 0, .bool false] 80 (0, 0))) : w.cell? ⟨g, 1, none⟩ = some (.slice none 0 0) := by
  simp only [World.cell?, hg]; rfl
theorem blocks_d {w : World} {p : Option Addr} (h : Dead w p) : Calls Try.prog 41 #[.pointer p] w fun e w' => e = .returned (.int .i64 0) ∧ w = w' := by
  rcases h with rfl | ⟨g, rfl, hg⟩
  · go_enter Try.func41, Try.ntmps41
    go_wp2
    go_ret
    exact ⟨rfl, rfl⟩
  · have c1 := dead_cells hg
    go_enter Try.func41, Try.ntmps41
    go_wp2
    go_ret
    exact ⟨rfl, rfl⟩
theorem up_d {w : World} {p : Option Addr} (h : Dead w p) : Calls Try.prog 23 #[.pointer p] w fun e w' => e = .returned (.bool false) ∧ w = w' := by
  go_enter Try.func23, Try.ntmps23
  go_wp2_with (go_at_call 41; refine (blocks_d h).mono ?_; rintro e w' ⟨rfl, rfl⟩)
  go_ret
  exact ⟨rfl, rfl⟩
theorem check_d {w : World} {p : Option Addr} (h : Dead w p) (a b : Int) : Calls Try.prog 68 #[.pointer p, .int .i64 a, .int .i64 b] w fun e w' => e = .returned (.int .i64 1) ∧ w = w' := by
  go_enter Try.func68, Try.ntmps68
  go_wp2_with (go_at_call 41; refine (blocks_d h).mono ?_; rintro e w' ⟨rfl, rfl⟩)
  go_ret
  exact ⟨rfl, rfl⟩
theorem read_d {w : World} {p : Option Addr} (h : Dead w p) (a : Int) : Calls Try.prog 58 #[.pointer p, .int .i64 a] w fun e w' => e = .returned (.tuple #[.int .u32 0, .int .i64 1]) ∧ w = w' := by
  go_enter Try.func58, Try.ntmps58
  go_wp2_with (go_at_call 68; refine (check_d h _ _).mono ?_; rintro e w' ⟨rfl, rfl⟩)
  go_ret2
  exact ⟨rfl, rfl⟩
theorem program_d {w : World} {p : Option Addr} (h : Dead w p) (a v : Int) : Calls Try.prog 87 #[.pointer p, .int .i64 a, .int .u32 v] w fun e w' => e = .returned (.int .i64 1) ∧ Below w.heap.size w w' := by
  have b0 := (Below.refl _ w).alloc (Nat.le_refl _) (.cells #[.int .u32 v] 34)
  have h2 := h.below b0
  go_enter Try.func87, Try.ntmps87
  go_wp2_with (go_at_call 68; refine (check_d h2 _ _).mono ?_; rintro e w' ⟨rfl, rfl⟩)
  go_ret
  exact ⟨rfl, b0⟩
theorem erase_d {w : World} {p : Option Addr} (h : Dead w p) (a : Int) : Calls Try.prog 89 #[.pointer p, .int .i64 a] w fun e w' => e = .returned (.int .i64 1) ∧ w = w' := by
  go_enter Try.func89, Try.ntmps89
  go_wp2_with (go_at_call 68; refine (check_d h _ _).mono ?_; rintro e w' ⟨rfl, rfl⟩)
  go_ret
  exact ⟨rfl, rfl⟩
theorem wear_d {w : World} {p : Option Addr} (h : Dead w p) (a : Int) : Calls Try.prog 14 #[.pointer p, .int .i64 a] w fun e w' => e = .returned (.int .i64 0) ∧ w = w' := by
  by_cases h1 : a < 0
  · go_enter Try.func14, Try.ntmps14
    go_wp2_with (go_at_call 41; refine (blocks_d h).mono ?_; rintro e w' ⟨rfl, rfl⟩)
    go_ret
    exact ⟨rfl, rfl⟩
  · have h2 : 0 ≤ a := by omega
    go_enter Try.func14, Try.ntmps14
    go_wp2_with (go_at_call 41; refine (blocks_d h).mono ?_; rintro e w' ⟨rfl, rfl⟩)
    go_ret
    exact ⟨rfl, rfl⟩
theorem words_d {w : World} {p : Option Addr} (h : Dead w p) : Calls Try.prog 15 #[.pointer p] w fun e w' => e = .returned (.slice none 0 0) ∧ w = w' := by
  go_enter Try.func15, Try.ntmps15
  go_wp2_with (go_at_call 41; refine (blocks_d h).mono ?_; rintro e w' ⟨rfl, rfl⟩)
  go_ret
  exact ⟨rfl, rfl⟩
theorem fuse_d {w : World} {p : Option Addr} (h : Dead w p) (n v : Int) : Calls Try.prog 22 #[.pointer p, .int .i64 n, .int .u32 v] w fun e w' => e = .returned (.tuple #[]) ∧ w = w' := by
  go_enter Try.func22, Try.ntmps22
  go_wp2_with (go_at_call 41; refine (blocks_d h).mono ?_; rintro e w' ⟨rfl, rfl⟩)
  go_end0
  exact ⟨rfl, rfl⟩
theorem on_d {w : World} {p : Option Addr} (h : Dead w p) : Calls Try.prog 30 #[.pointer p] w fun e w' => e = .returned (.tuple #[]) ∧ w = w' := by
  go_enter Try.func30, Try.ntmps30
  go_wp2_with (go_at_call 41; refine (blocks_d h).mono ?_; rintro e w' ⟨rfl, rfl⟩)
  go_end0
  exact ⟨rfl, rfl⟩

/-- Where there are no whole blocks, or too many, or nothing that they bear, there is no chip. -/
theorem of_bad {w : World} {a : Option Addr} {len kap : Nat} {endure : Int} (hlen : len ≤ 1000000) (h : len < 64 ∨ 64 * 65 ≤ len ∨ ¬ len % 64 = 0 ∨ endure < 0) :
    Calls Try.prog 60 #[.slice a len kap, .int .i64 endure] w fun e w' => e = .returned (.pointer none) ∧ w = w' := by
  obtain ⟨n, hn⟩ : ∃ n : Nat, n = len / 64 := ⟨_, rfl⟩
  have d1 : (len : Int) / 64 = n := by omega
  have d2 : (len : Int).tdiv 64 = n := by rw [Int.tdiv_eq_ediv_of_nonneg (by omega)]; omega
  have hl0 : 0 ≤ (len : Int) := by omega
  have HN := Lib.hid hn
  have hn1 : (n : Int) ≤ 15625 := by omega
  have hn0 : 0 ≤ (n : Int) := by omega
  clear hn hlen
  by_cases h1 : (n : Int) < 1
  · clear h
    go_enter Try.func60, Try.ntmps60
    go_wp2
    go_ret
    exact ⟨rfl, rfl⟩
  · have h1' : (1 : Int) ≤ n := by omega
    clear h1
    by_cases h2 : (64 : Int) < n
    · clear h
      go_enter Try.func60, Try.ntmps60
      go_wp2
      go_ret
      exact ⟨rfl, rfl⟩
    · have h2' : (n : Int) ≤ 64 := by omega
      clear h2
      by_cases h3 : len % 64 = 0
      · have h3' : (len : Int) % 64 = 0 := by omega
        have h4 : endure < 0 := by have := HN.out; omega
        clear h h3
        go_enter Try.func60, Try.ntmps60
        go_wp2
        go_ret
        exact ⟨rfl, rfl⟩
      · have h3' : ((len : Int) % 64 == 0) = false := by rw [beq_eq_false_iff_ne]; omega
        have h3'' : ((len : Int) % 64 != 0) = true := by simpa using h3'
        clear h h3
        go_enter Try.func60, Try.ntmps60
        go_wp2
        go_ret
        exact ⟨rfl, rfl⟩
theorem new_bad {w : World} {n endure : Int} (h : n < 1 ∨ 64 < n) : Calls Try.prog 46 #[.int .i64 n, .int .i64 endure] w fun e w' => e = .returned (.pointer none) ∧ Below w.heap.size w w' := by
  rcases h with h | h
  · go_enter Try.func46, Try.ntmps46
    go_wp2
    go_ret
    exact ⟨rfl, Below.refl _ _⟩
  · have h' : 1 ≤ n := by omega
    go_enter Try.func46, Try.ntmps46
    go_wp2
    go_ret
    exact ⟨rfl, Below.refl _ _⟩
set_option maxHeartbeats 4000000 in
theorem new_neg {w : World} {endure : Int} (he : endure < 0) : Calls Try.prog 46 #[.int .i64 1, .int .i64 endure] w fun e w' => e = .returned (.pointer none) ∧ Below w.heap.size w w' := by
  have b0 := (Below.refl _ w).alloc (Nat.le_refl _) (.cells #[.int .u32 4294967295] 34)
  have hx := World.cell?_alloc_mark w #[.int .u32 4294967295] 34 (0, 0) 0
  have hrep := Sl.repeat_c (w := w.alloc (.cells #[.int .u32 4294967295] 34)) (b := w.heap.size) (off := 0) (c := 1) (N := 64) (v := 4294967295) (by omega) (by omega) hx
  go_enter Try.func46, Try.ntmps46
  go_wp2_with (first | (go_at_call 61; refine hrep.mono ?_; rintro e w1 ⟨a, rfl, p1, p2, p3⟩; clear hrep) | (go_at_call 60; refine (of_bad (by decide) (.inr (.inr (.inr he)))).mono ?_; rintro e w2 ⟨rfl, rfl⟩))
  go_ret
  exact ⟨rfl, Below.then b0 p3⟩
/-- Of, where it makes one. -/
theorem of_o {w0 w : World} (h : Below w0.heap.size w0 w) {b off kap n : Nat} {zs : List Int} {endure : Int} {c : Nr.C} (h1 : 1 ≤ n) (h2 : n ≤ 64) (hl : zs.length = 64 * n) (he : 0 ≤ endure) (hr : Hid (∀ i : Nat, 0 ≤ zs.getD i 0 ∧ zs.getD i 0 < 4294967296))
    (he2 : Hid (endure ≤ 9223372036854775807)) (hc : Hid (∀ j, j < zs.length → w.cell? ⟨b, off + j, none⟩ = some (.int .u32 (zs.getD j 0)))) (q : Hid (Nr.of_ zs endure = c)) :
    Calls Try.prog 60 #[.slice (some ⟨b, off, none⟩) zs.length kap, .int .i64 endure] w fun e w' => ∃ g bw be, e = .returned (.pointer (some ⟨g, 0, none⟩)) ∧ Own w0 w' g bw be c := by
  refine (of_c h1 h2 hl he hr.out he2.out hc.out).mono ?_
  rintro e w' ⟨g, bw, be, rfl, p1, p2, p3, p4, p5⟩
  have s := h.size
  exact ⟨g, bw, be, rfl, q.out ▸ p1, by omega, by omega, by omega, Below.then h p5⟩
end Nor
namespace Ref1
theorem _root_.Go.Proofs.Ytfghlfolejpjjaa.Below.drewN' {B : Nat} {a w : World} (h : Below B a w) (n : Nat) : Below B a (w.drewN n) := ⟨h.os, h.tape, h.output, h.size, h.block⟩
/-- Words that are alike. -/
theorem words_same {w : World} {a b : Option Addr} {k1 k2 : Nat} {zs : List Int} {b1 o1 b2 o2 : Nat} (h1 : ∀ i, i < zs.length → a = some ⟨b1, o1, none⟩) (h2 : ∀ i, i < zs.length → b = some ⟨b2, o2, none⟩) (hbig : zs.length < 1000000)
    (c1 : ∀ i, i < zs.length → w.cell? ⟨b1, o1 + i, none⟩ = some (.int .u32 (zs.getD i 0))) (c2 : ∀ i, i < zs.length → w.cell? ⟨b2, o2 + i, none⟩ = some (.int .u32 (zs.getD i 0))) :
    Calls Try.prog 17 #[.slice a zs.length k1, .slice b zs.length k2] w fun e w' => e = .returned (.bool true) ∧ Below w.heap.size w w' := by
  have hb2 : (zs.length : Int) < 1000000 := by omega
  have C1 := Lib.hid c1
  have C2 := Lib.hid c2
  clear c1 c2
  go_enter Try.func17, Try.ntmps17
  go_wp2
  go_loopw [5] (fun i wr => ∃ k : Nat, k ≤ zs.length ∧ i = .int .i64 k ∧ Below w.heap.size w wr) (fun i _ => zs.length - (intOf i).toNat)
  case atStart => exact ⟨0, Nat.zero_le _, rfl, Below.refl _ _⟩
  case round =>
    obtain ⟨k, hk, rfl, hB⟩ := hrel
    by_cases hlt : k < zs.length
    · obtain rfl := h1 k hlt
      obtain rfl := h2 k hlt
      have e1 := Sl.below_cell hB (C1.out k hlt)
      have e2 := Sl.below_cell hB (C2.out k hlt)
      have hlt2 : (k : Int) < (zs.length : Int) := by omega
      generalize zs.getD k 0 = x at e1 e2
      go_wp2
      go_quiet (fail)
      go_wp2
      go_roundw
      case rel => exact ⟨k + 1, by omega, by go_num, Below.drewN' hB _⟩
      case measure => simp [intOf]; omega
    · have hlt2 : (zs.length : Int) ≤ (k : Int) := by omega
      go_wp2
      go_ret
      exact ⟨rfl, hB⟩
end Ref1
end Go.Proofs.Ytfghlfolejpjjaa
