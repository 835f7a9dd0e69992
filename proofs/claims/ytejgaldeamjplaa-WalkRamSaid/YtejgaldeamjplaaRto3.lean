/- Contracts of the reference of package walk: To, whole; Word. -/
import Derived.Test.YtejgaldeamjplaaRto2
namespace Go.Proofs.Ytejgaldeamjplaa
open Go.RowKit
set_option linter.unusedVariables false
namespace Ref15
theorem eq_true_of {b : Bool} (h : ¬ b = false) : b = true := by cases b <;> simp_all
theorem eq_false_of {b : Bool} (h : ¬ b = true) : b = false := by cases b <;> simp_all
theorem to_c {w : World} {base : Int} (hb0 : 0 ≤ base) (hb1 : base < 4294967296) {ad : Option Addr} {n cap : Nat} {zs : List Int} (hW : Wd w ad n cap zs) (hn : n ≤ 4096) (a : Wk.Ask) (ha : a.Ok) {pa c : Int} {t : Bool} {zs' : List Int} (q : Hid (Wk.to base zs a = ⟨pa, c, t, zs'⟩)) :
    Calls Try.prog 13 #[ramv base ad n cap, .agg #[.int .u32 a.va, .int .u32 a.satp, .int .u32 a.status, .int .i64 a.access, .int .i64 a.priv]] w fun e w' => ∃ a' k', e = .returned (ansv pa c t base a' n k') ∧ Wd w' a' n k' zs' ∧ Below w.heap.size w w' := by
  obtain rfl : zs.length = n := hW.len
  have q := q.out
  unfold Wk.to at q
  split at q
  · rename_i hc
    cases q
    refine to_plain hb0 hb1 hW hn a ha ?_
    by_cases h3 : a.priv = 3
    · exact .inl (by rw [h3]; rfl)
    · exact .inr ⟨by rw [beq_eq_false_iff_ne]; exact h3, hc.elim (fun e => absurd e h3) id⟩
  · rename_i hc
    have h3 : (a.priv == 3) = false := by rw [beq_eq_false_iff_ne]; exact fun e => hc (.inl e)
    have hs : Wk.bit a.satp 31 = true := eq_true_of fun e => hc (.inr e)
    unfold Wk.walked at q
    split at q
    · rename_i p hl
      cases q
      unfold Wk.leaf at hl
      split at hl
      · rename_i p' he
        cases hl
        rcases Wk.entry_bad he with ⟨rfl, hp⟩ | ⟨rfl, i, hp, hv | ⟨hv, h2, h1⟩⟩
        · exact to_n1 hb0 hb1 hW hn a ha h3 hs hp
        · exact to_v1 hb0 hb1 hW hn a ha h3 hs hp hv
        · exact to_w1 hb0 hb1 hW hn a ha h3 hs hp hv h2 h1
      · rename_i i he
        obtain ⟨_, hv, h21, hp⟩ := Wk.entry_err he
        split at hl
        · cases hl
        · rename_i hlf
          have hlf := eq_false_of hlf
          split at hl
          · rename_i p' he0
            cases hl
            rcases Wk.entry_bad he0 with ⟨rfl, hq⟩ | ⟨rfl, j, hq, hv0 | ⟨hv0, h2, h1⟩⟩
            · exact to_n0 hb0 hb1 hW hn a ha h3 hs hp hv h21 hlf hq
            · exact to_v0 hb0 hb1 hW hn a ha h3 hs hp hv h21 hlf hq hv0
            · exact to_w0 hb0 hb1 hW hn a ha h3 hs hp hv h21 hlf hq hv0 h2 h1
          · rename_i j he0
            obtain ⟨_, hv0, k21, hq⟩ := Wk.entry_err he0
            split at hl
            · cases hl
            · rename_i hl0
              cases hl
              exact to_end hb0 hb1 hW hn a ha h3 hs hp hv h21 hlf hq hv0 k21 (eq_false_of hl0)
    · rename_i i b hl
      unfold Wk.leaf at hl
      split at hl
      · cases hl
      · rename_i i' he
        obtain ⟨_, hv, h21, hp⟩ := Wk.entry_err he
        split at hl
        · rename_i hlf
          cases hl
          exact to_l1 hb0 hb1 hW hn a ha h3 hs hp hv h21 hlf q
        · rename_i hlf
          have hlf := eq_false_of hlf
          split at hl
          · cases hl
          · rename_i j he0
            obtain ⟨_, hv0, k21, hq⟩ := Wk.entry_err he0
            split at hl
            · rename_i hl0
              cases hl
              exact to_l0 hb0 hb1 hW hn a ha h3 hs hp hv h21 hlf hq hv0 k21 hl0 q
            · cases hl
set_option maxHeartbeats 400000 in
set_option maxRecDepth 100000 in
theorem word_c {w : World} {base : Int} (hb0 : 0 ≤ base) (hb1 : base < 4294967296) {ad : Option Addr} {n cap : Nat} {zs : List Int} (hW : Wd w ad n cap zs) (hn : n ≤ 4096) {x : Int} (hx : 0 ≤ x) (hx' : x < 4294967296) :
    Calls Try.prog 16 #[ramv base ad n cap, .int .u32 x] w fun e w' => e = .returned (.tuple #[.int .u32 (match Wk.place base n x with | some i => zs.getD i 0 | none => 0), .bool (Wk.place base n x).isSome]) ∧ Below w.heap.size w w' := by
  cases hp : Wk.place base n x with
  | none =>
    have hP := fun W => place_c (w := W) (a := ad) (cap := cap) hn hb0 hb1 (x := x) hx (by omega) (v := -1) (by show _ = _; rw [hp])
    clear hp
    go_enter Try.func16, Try.ntmps16
    go_wp2_with (go_at_call 23; refine (hP _).mono ?_; rintro e w1 ⟨rfl, b1⟩; clear hP)
    go_ret2
    exact ⟨rfl, Below.then (alloc1_below _ _) b1⟩
  | some i =>
    have hi := (Wk.place_lt hp).1
    have hP := fun W => place_c (w := W) (a := ad) (cap := cap) hn hb0 hb1 (x := x) hx (by omega) (v := (i : Int)) (by show _ = _; rw [hp])
    obtain ⟨bb, off, rfl, hcell⟩ := hW.at_ hi
    have hy := Lib.hid (hcell i hi)
    have hi2 : (i : Int) < (n : Int) := by omega
    have hi3 : ¬ (i : Int) < 0 := by omega
    obtain ⟨y, HY⟩ : ∃ y, Hid (zs.getD i 0 = y) := ⟨_, rfl⟩
    simp only [HY.out]
    rw [HY.out] at hy
    clear hp hcell
    go_enter Try.func16, Try.ntmps16
    go_wp2_with (go_at_call 23; refine (hP _).mono ?_; rintro e w1 ⟨rfl, b1⟩; clear hP; obtain ⟨e0, B⟩ := alloc1_then b1; obtain ⟨x0, x1, _⟩ := cells2 e0; clear e0 b1; have c1 := (B.cell (World.block_lt_of_cell? w _ hy.out)).trans hy.out)
    go_ret2
    exact ⟨rfl, B⟩
end Ref15
end Go.Proofs.Ytejgaldeamjplaa
