/- slices.Repeat at one word. -/
import Derived.Test.YtfghlfolejpjjaaSl
import Derived.Laws.CopyOwn
import Derived.Deep.RegionLaw
namespace Go.Proofs.Ytfghlfolejpjjaa
open Go.RowKit
set_option linter.unusedVariables false
attribute [local go_sem] max2_int min2_int max_two min_two
namespace Sl
theorem mul64_c (n : Nat) (hn : n ≤ 4096) (w : World) : Calls Try.prog 78 #[.int .u64 1, .int .u64 n] w fun e w' => e = .returned (.tuple #[.int .u64 0, .int .u64 n]) ∧ w = w' := by
  have h1 : bits .and .u64 (n : Int) 4294967295 = n := by
    rw [u64_and (n : Int) 4294967295 (by omega) (by omega) (by decide) (by decide), Int.toNat_natCast, show (4294967295 : Int).toNat = 2 ^ 32 - 1 from rfl, Nat.and_two_pow_sub_one_eq_mod, Nat.mod_eq_of_lt (by omega)]
  have h0 : bits .and .u64 1 4294967295 = 1 := by decide
  have h3 : bits .and .u64 0 4294967295 = 0 := by decide
  have h4 : IntKind.u64.wrap (n : Int) = n := by rw [IntKind.wrap_u64]; omega
  have h5 : IntKind.u64.wrap 0 = 0 := by decide
  have h2 : (n : Int) / 4294967296 = 0 := by omega
  go_enter Try.func78, Try.ntmps78
  go_wp2
  go_ret2
  exact ⟨rfl, rfl⟩
theorem mul_c (n : Nat) (hn : n ≤ 4096) (w : World) : Calls Try.prog 69 #[.int .u64 1, .int .u64 n] w fun e w' => e = .returned (.tuple #[.int .u64 0, .int .u64 n]) ∧ w = w' := by
  have h4 : IntKind.u64.wrap (n : Int) = n := by rw [IntKind.wrap_u64]; omega
  go_enter Try.func69, Try.ntmps69
  go_wp2_with (go_at_call 78; refine (mul64_c n hn _).mono ?_; rintro e w' ⟨rfl, rfl⟩)
  go_ret2
  exact ⟨rfl, rfl⟩

/-- Cells of which the first bear one word. -/
def Filled (w : World) (g N k : Nat) (v : Int) : Prop := ∃ cur : List Value, w.heap[g]? = some (.cells cur.toArray 34 (0, 0)) ∧ cur.length = N ∧ ∀ i, i < k → cur[i]? = some (.int .u32 v)
theorem Filled.cell {w : World} {g N k : Nat} {v : Int} (h : Filled w g N k v) {i : Nat} (hi : i < k) : w.cell? ⟨g, i, none⟩ = some (.int .u32 v) := by
  obtain ⟨cur, e, _, hc⟩ := h
  simp only [World.cell?, e]; simpa using hc i hi
theorem filled_splice {cur : List Value} {N k m : Nat} {v : Int} (hl : cur.length = N) (hk : ∀ i, i < k → cur[i]? = some (.int .u32 v)) (hm : k + m ≤ N) :
    (splice cur k (List.replicate m (Value.int .u32 v))).length = N ∧ ∀ i, i < k + m → (splice cur k (List.replicate m (Value.int .u32 v)))[i]? = some (.int .u32 v) := by
  refine ⟨by rw [length_splice _ _ _ (by simp; omega), hl], fun i hi => ?_⟩
  unfold splice
  by_cases c : i < k
  · rw [List.getElem?_append_left (by simp; omega), List.getElem?_take, if_pos c, hk i c]
  · rw [List.getElem?_append_right (by simp; omega), List.getElem?_append_left (by simp; omega), List.getElem?_replicate, if_pos (by simp; omega)]

theorem rep_src {w : World} {g N k m : Nat} {v : Int} (h : Filled w g N k v) (hm : m ≤ k) : 0 < (List.replicate m (Value.int .u32 v)).length → some (⟨g, k, none⟩ : Addr) = some ⟨g, k, none⟩ ∧ ∃ ad, some (⟨g, 0, none⟩ : Addr) = some ad ∧ ∀ j u, (List.replicate m (Value.int .u32 v))[j]? = some u → w.cell? (ad.add j) = some u := by
  intro _
  refine ⟨rfl, _, rfl, ?_⟩
  intro j u hj
  have hj0 := (List.getElem?_eq_some_iff.1 hj).1
  rw [List.length_replicate] at hj0
  rw [List.getElem?_replicate, if_pos hj0] at hj
  cases hj
  rw [Addr.add_lit, Nat.zero_add]
  exact h.cell (by omega)
theorem rep_fit {k m : Nat} {u : Value} {cur : List Value} (h : k + m ≤ cur.length) : k + (List.replicate m u).length ≤ cur.length := by rw [List.length_replicate]; exact h
theorem rep_one {m : Nat} {v : Int} : ∀ u ∈ List.replicate m (Value.int .u32 v), u.oneCell' = true := by intro u hu; rw [List.eq_of_mem_replicate hu]; rfl
theorem made_of_owns {w : World} {B g N : Nat} {xs : List Value} (h : w.ownsRow B 34 1 (.slice (some ⟨g, 0, none⟩) N N) N xs) : ∃ cur : List Value, w.heap[g]? = some (.cells cur.toArray 34 (0, 0)) ∧ cur.length = N := by
  obtain ⟨_, ⟨h, _⟩ | ⟨g', cap, cur, h, _, hg, _, _, hs, _⟩⟩ := h
  · cases h
  · simp only [Value.slice.injEq, Option.some.injEq, Addr.mk.injEq] at h
    obtain ⟨⟨rfl, _, _⟩, _, rfl⟩ := h
    exact ⟨cur.toList, by simpa using hg, by simpa using hs⟩
theorem below_cell {w w' : World} {p : Addr} {v : Value} (h : Below w.heap.size w w') (hc : w.cell? p = some v) : w'.cell? p = some v :=
  Keep.cell (S := fun _ => False) ⟨h.os, h.tape, h.output, h.size, fun k hk _ => h.block k hk⟩ hc id

set_option maxHeartbeats 4000000 in
set_option maxRecDepth 100000 in
theorem repeat_c {w : World} {b off c N : Nat} {v : Int} (h1 : 1 ≤ N) (h2 : N ≤ 4096) (hx : w.cell? ⟨b, off, none⟩ = some (.int .u32 v)) :
    Calls Try.prog 61 #[.slice (some ⟨b, off, none⟩) 1 c, .int .i64 N] w fun e w' => ∃ a, e = .returned (.slice (some ⟨a, 0, none⟩) N N) ∧ w.heap.size ≤ a ∧ Row w' a (List.replicate N v) ∧ Below w.heap.size w w' := by
  obtain ⟨i0, hi, hz0, hz1, hz2⟩ := info_parts info32
  have h4 : IntKind.u64.wrap (N : Int) = N := by rw [IntKind.wrap_u64]; omega
  have hszi : (Try.prog.info? 34).map (·.size) = some 1 := by rw [hi]; simp [hz1]
  have HX := Lib.hid hx
  clear hx
  go_enter Try.func61, Try.ntmps61
  go_wp2_with (first | (go_at_call 69; refine (mul_c N h2 _).mono ?_; rintro e w' ⟨rfl, rfl⟩) | (at_make; refine wpList_make_full _ rfl _ _ 22 rfl w.heap.size 34 i0 (.int .u32 0) 1 under32 hi hz0 hz1 _ _ _ _ N rfl rfl (by simp) (by simp) ?m1 ?m2 (Nat.le_refl _) ?_))
  case m1 => rw [hz2]; omega
  case m2 => unfold maxLen; omega
  intro w1 hown hgrow
  have hb1 : Below w.heap.size w w1 := (Below.refl _ w).grown hgrow (Nat.le_refl _) (by intro k hk; cases hk)
  obtain ⟨cur0, hcur, hlen⟩ := made_of_owns hown
  have hx1 : w1.cell? ⟨b, off, none⟩ = some (.int .u32 v) := below_cell hb1 HX.out
  have HX1 := Lib.hid hx1
  clear hx1 hown hgrow
  go_wp2_with (with_reducible refine wpList_copy_splice rfl (.tmp 31) (.tmp 32) 22 22 rfl 34 under32 hszi (some ⟨w.heap.size, 0, none⟩) (some ⟨b, off, none⟩) N N 1 c ?e1 ?e2 w.heap.size 0 cur0 _ hcur [.int .u32 v] ?c1 ?c2 ?c3 ?c4 w.heap.size w hb1 (Nat.le_refl _) ?_)
  case e1 => rfl
  case e2 => rfl
  case c1 => show 1 = min 1 N; omega
  case c2 =>
    intro j u hj
    have hj0 : j = 0 := by
      have := (List.getElem?_eq_some_iff.1 hj).1
      simpa using this
    subst hj0
    simp at hj; subst hj
    exact HX1.out
  case c3 => simp; omega
  case c4 => simp; rfl
  intro w2 hg2 hb2
  have F2 : Filled w2 w.heap.size N 1 v := by
    have := filled_splice (cur := cur0) (N := N) (k := 0) (m := 1) (v := v) hlen (fun i hi => absurd hi (by omega)) (by omega)
    exact ⟨_, hg2.out, this.1, this.2⟩
  clear hg2 hcur
  go_wp2
  go_loopw [8] (fun i wr => ∃ k : Nat, 1 ≤ k ∧ k ≤ N ∧ i = .int .i64 k ∧ Filled wr w.heap.size N k v ∧ Below w.heap.size w wr) (fun i _ => N - (intOf i).toNat)
  case atStart => exact ⟨1, Nat.le_refl _, h1, rfl, F2, hb2⟩
  case round =>
    obtain ⟨k, hk1, hk, rfl, hF, hB⟩ := hrel
    by_cases hlt : k < N
    · obtain ⟨cur, hcur, hlen, hc⟩ := hF
      have hlt2 : (k : Int) < (N : Int) := by omega
      have hne : ¬ N = k := by omega
      have F3 := filled_splice (cur := cur) (N := N) (k := k) (m := min k (N - k)) (v := v) hlen hc (by omega)
      have HF : Hid (Filled wr.drew w.heap.size N k v) := ⟨cur, hcur, hlen, hc⟩
      have HB : Hid (Below w.heap.size w wr.drew) := ⟨hB.os, hB.tape, hB.output, hB.size, hB.block⟩
      have HM := Lib.hid (show k + min k (N - k) ≤ cur.length by omega)
      have HC := Lib.hid hcur
      have hwr : IntKind.i64.wrap ((k : Int) + ((min k (N - k) : Nat) : Int)) = ((k + min k (N - k) : Nat) : Int) := by rw [IntWalk.i64_left, IntWalk.wrap64_in _ (by omega)]; omega
      clear hB hcur hc
      go_wp2
      go_region_law (refine step_copy_splice rfl (.tmp 41) (.tmp 44) 22 22 rfl 34 under32 hszi (some ⟨w.heap.size, k, none⟩) (some ⟨w.heap.size, 0, none⟩) (N - k) (N - k) k N (by simp [Act.eval, Act.put]) (by simp [Act.eval, Act.put]) w.heap.size k cur _ HC.out (List.replicate (min k (N - k)) (.int .u32 v)) List.length_replicate (rep_src HF.out (Nat.min_le_left _ _)) (rep_fit HM.out) rep_one w.heap.size w HB.out (Nat.le_refl _) ?_; intro w3 hg3 hb3)
      go_simp
      go_wp2
      go_roundw
      case rel => exact ⟨k + min k (N - k), by omega, by omega, by rw [Int.natCast_add], ⟨_, hg3.out, F3.1, F3.2⟩, hb3⟩
      case measure => simp [intOf]; omega
    · obtain rfl : k = N := by omega
      go_wp2
      go_ret
      obtain ⟨cur, hcur, hlen, hc⟩ := hF
      exact ⟨w.heap.size, rfl, Nat.le_refl _, ⟨cur.toArray, hcur, fun i hi => by
        have hi' : i < k := by simpa using hi
        rw [show (List.replicate k v).getD i 0 = v by simp [List.getD, hi']]
        simpa using hc i hi'⟩, hB⟩
end Sl
end Go.Proofs.Ytfghlfolejpjjaa
