/- Contracts of the reference of package model: Seen, New. -/
import Derived.Test.YtlfabajceflpdaaRef93
namespace Go.Proofs.Ytlfabajceflpdaa
open Go.RowKit Md
set_option linter.unusedVariables false
attribute [local go_sem] max2_int min2_int max_two min_two Sec.eqx Sec.guardx
theorem retR2 {fn : Func} {p u : Tmp} (h : fn.results = #[.cell p 26, .tmp u]) (tmps : Array Value) (w : World) (g : Nat) (cs : Array Value) (v : Value) (hp : tmps.getD p undef = .pointer (some ⟨g, 0, none⟩)) (hv : tmps.getD u undef = v) (hg : w.heap[g]? = some (.cells cs 26 (0, 0))) (hs : cs.size = 7) :
    (results fn tmps).run Try.prog w = .ok (.tuple #[.agg cs, v]) w := by
  have hp' : tmps[p]?.getD undef = .pointer (some ⟨g, 0, none⟩) := by simpa using hp
  have hv' : tmps[u]?.getD undef = v := by simpa using hv
  have hr := run_loadVar_row (P := Try.prog) w g 26 26 cs (0, 0) _ hg underR rfl (by rw [sizeR, hs])
  simp [results, h, hp', hv', asAddr, hr]
namespace Ref9
set_option maxHeartbeats 400000 in
set_option maxRecDepth 100000 in
theorem seen_no {w : World} {a b : Option Addr} {n cap m kap : Nat} {s : St} {l : List V} (hl : Lv w a n cap s.sure) (hk : Lv w b m kap l) (hn : n ≤ 2000) (hm : m ≤ 2000) (hq : may s l = false) :
    Calls Try.prog 11 #[stv a n cap s, .slice b m kap] w fun e w' => e = .returned (.tuple #[stv a n cap s, .bool false]) ∧ Below w.heap.size w w' := by
  have hM : ∀ o1 o2, Calls Try.prog 18 #[stv a n cap s, .slice b m kap] ((w.alloc o1).alloc o2) fun e w' => e = .returned (.bool false) ∧ Below ((w.alloc o1).alloc o2).heap.size ((w.alloc o1).alloc o2) w' := fun o1 o2 => by
    have := may_c (hl.below (alloc2_below w o1 o2)) (hk.below (alloc2_below w o1 o2)) hn hm
    rw [hq] at this
    exact this
  unfold stv at *
  clear hq
  go_enter Try.func11, Try.ntmps11
  go_wp2_with (go_at_call 18; refine (hM _ _).mono ?_; rintro e w1 ⟨rfl, b1⟩; clear hM; obtain ⟨e0, e1, b2⟩ := alloc2_then b1; clear b1; have E1 := Lib.hid e1; obtain ⟨x0, x1, x2, x3, x4, x5, x6, x7⟩ := cells7 e0; obtain ⟨y0, y1, y2, y3, y4, y5, y6, y7⟩ := cells7 e1)
  refine bodyPost_ret (retR2 rfl _ _ _ _ _ rfl rfl (put7 E1.out _ _ _ _ _ _ _) rfl) rfl ⟨rfl, put7_below b2 (by omega) _ _ _ _ _ _ _⟩
set_option maxHeartbeats 400000 in
set_option maxRecDepth 100000 in
theorem seen_yes {w : World} {a b : Option Addr} {n cap m kap : Nat} {s : St} {l : List V} (hl : Lv w a n cap s.sure) (hk : Lv w b m kap l) (hn : n ≤ 2000) (hm : m ≤ 2000) (hq : may s l = true) :
    Calls Try.prog 11 #[stv a n cap s, .slice b m kap] w fun e w' => e = .returned (.tuple #[stv b m kap (calm l), .bool true]) ∧ Below w.heap.size w w' := by
  have hM : ∀ o1 o2, Calls Try.prog 18 #[stv a n cap s, .slice b m kap] ((w.alloc o1).alloc o2) fun e w' => e = .returned (.bool true) ∧ Below ((w.alloc o1).alloc o2).heap.size ((w.alloc o1).alloc o2) w' := fun o1 o2 => by
    have := may_c (hl.below (alloc2_below w o1 o2)) (hk.below (alloc2_below w o1 o2)) hn hm
    rw [hq] at this
    exact this
  unfold stv at *
  clear hq
  go_enter Try.func11, Try.ntmps11
  go_wp2_with (first | (go_at_call 18; refine (hM _ _).mono ?_; rintro e w1 ⟨rfl, b1⟩; clear hM; obtain ⟨e0, e1, b2⟩ := alloc2_then b1; clear b1 e0; have E1 := Lib.hid e1; obtain ⟨y0, y1, y2, y3, y4, y5, y6, y7⟩ := cells7 e1; clear e1))
  exact bodyPost_ret (retR2 rfl _ _ _ _ _ rfl rfl (put7 E1.out _ _ _ _ _ _ _) rfl) rfl ⟨rfl, put7_below b2 (by omega) _ _ _ _ _ _ _⟩
theorem own_flat {w : World} {n : Nat} : OwnsV w 0 (.slice none 0 0) 0 [] := World.ownsRow_nil _ _ _ _
set_option maxHeartbeats 1000000 in
set_option maxRecDepth 100000 in
theorem new_c {w : World} (x : Int) :
    Calls Try.prog 20 #[.int .i64 x] w fun e w' => ∃ a' n kap', e = .returned (stv a' n kap' (Md.new x)) ∧ n ≤ 1000 ∧ Lv w' a' n kap' (Md.new x).sure ∧ Below w.heap.size w w' := by
  obtain ⟨N, hN⟩ : ∃ N : Nat, (min (max x 0) 1000).toNat = N := ⟨_, rfl⟩
  have hN1 : N ≤ 1000 := by omega
  have hnew : Md.new x = calm (List.replicate N V.z) := by unfold Md.new; rw [hN]
  rw [hnew]
  have key : ∀ j : Nat, j < N → (j : Int) < x ∧ (j : Int) < 1000 := fun j hj => by omega
  have key2 : x ≤ (N : Int) ∨ (x ≥ 1000 ∧ N = 1000) := by omega
  have K1 := Lib.hid key
  have K2 := Lib.hid key2
  clear hN hnew key key2
  go_enter Try.func20, Try.ntmps20
  go_wp2
  go_loopw [4] (fun i wr => ∃ j : Nat, j ≤ N ∧ i = .int .i64 j ∧ ∃ a' kap', Lv wr a' j kap' (List.replicate j V.z) ∧ (∀ ad, a' = some ad → w.heap.size + 2 ≤ ad.block) ∧ Hid (wr.heap[w.heap.size + 1]? = some (.cells #[.slice a' j kap', .bool false, .int .i64 0, .int .u32 0, .int .u32 0, .int .u32 0, .int .u32 0] 26 (0, 0))) ∧ Hid (wr.heap[w.heap.size]? = some (.cells #[.slice none 0 0, .bool false, .int .i64 0, .int .u32 0, .int .u32 0, .int .u32 0, .int .u32 0] 26 (0, 0))) ∧ Below w.heap.size w wr) (fun i _ => N - (intOf i).toNat)
  case atStart =>
    obtain ⟨e0, e1, b2⟩ := alloc2_then (Below.refl _ ((w.alloc (.cells #[.slice none 0 0, .bool false, .int .i64 0, .int .u32 0, .int .u32 0, .int .u32 0, .int .u32 0] 26)).alloc (.cells #[.slice none 0 0, .bool false, .int .i64 0, .int .u32 0, .int .u32 0, .int .u32 0, .int .u32 0] 26)))
    exact ⟨0, Nat.zero_le _, rfl, none, 0, ⟨rfl, Nat.le_refl _, .inl ⟨rfl, rfl, rfl⟩⟩, (fun ad e => by cases e), e1, e0, b2⟩
  case round =>
    obtain ⟨j, hj, rfl, a', kap', L, hge, E1, E0, hB⟩ := hrel
    obtain ⟨x0, x1, x2, x3, x4, x5, x6, x7⟩ := cells7 E0.out
    obtain ⟨y0, y1, y2, y3, y4, y5, y6, y7⟩ := cells7 E1.out
    have hsz : w.heap.size + 1 < wr.heap.size := (Array.getElem?_eq_some_iff.1 E1.out).1
    have HG := Lib.hid hge
    clear hge
    have j1 : (j : Int) ≤ 1000 := by omega
    by_cases hlt : j < N
    · obtain ⟨k1, k2⟩ := K1.out j hlt
      go_wp2_with (first | (at_builtin; refine append_v (by go_simp) _ _ rfl wr.heap.size _ 0 [] rfl (World.ownsRow_made wr #[] 0 (Nat.le_refl _) (Nat.zero_le _) rfl) rfl (L.below (alloc1_below _ _)) (by omega) (by simp) ?_; intro u1 w1 o1 g1 _; have B1 := (alloc1_below wr _).grown g1 (by simp) (by intro k hk; cases hk; exact Nat.le_refl _); have s1 : wr.heap.size ≤ w1.heap.size := B1.size; have E3 := Lib.hid ((B1.block _ hsz).trans E1.out); obtain ⟨y0, y1, y2, y3, y4, y5, y6, y7⟩ := cells7 E3.out) | (at_builtin; refine append_v (by go_simp) _ _ rfl wr.heap.size _ (0 + j) _ rfl (o1.alloc _) rfl (lv_box _ V.z) (by omega) (by simp; omega) ?_; intro u2 w2 o2 g2 _; have B2 := below_own B1 s1 o1 _ g2; have E4 := Lib.hid ((B2.block _ hsz).trans E1.out); have E5 := Lib.hid ((B2.block _ (by omega)).trans E0.out); clear B1 E3; obtain ⟨a2, kap2, rfl, L2, hge2⟩ := OwnsV.lv o2; rw [Nat.zero_add, List.nil_append] at L2; rw [show List.replicate j V.z ++ [V.z] = List.replicate (j + 1) V.z from (List.replicate_succ' ..).symm] at L2; have HG2 := Lib.hid hge2; clear hge2; obtain ⟨y0, y1, y2, y3, y4, y5, y6, y7⟩ := cells7 E4.out))
      go_roundw
      case rel =>
        refine ⟨j + 1, by omega, by go_num, a2, kap2, L2.same fun ad e => Below.heap_setCell _ _ _ _ (by have := HG2.out ad e; show ¬ ad.block = w.heap.size + 1; omega), fun ad e => (by have := HG2.out ad e; omega), ?_, (Below.heap_setCell _ _ _ _ (by show ¬ _ = w.heap.size + 1; omega)).trans E5.out, (Below.then hB (B2.mono (Nat.le_refl _))).setCell (by show w.heap.size ≤ w.heap.size + 1; omega) _⟩
        exact heap_set E4.out 0 _
      case measure => simp [intOf]; omega
    · obtain rfl : j = N := by omega
      rcases K2.out with h | ⟨h, rfl⟩
      · have h' : x ≤ (j : Int) := h
        go_wp2_with (refine bodyPost_ret (retR rfl _ _ _ _ rfl (put7 E0.out _ _ _ _ _ _ _) rfl) rfl ?_; exact ⟨_, _, _, rfl, hN1, L.same fun ad e => put7_away (by have := HG.out ad e; omega) _ _ _ _ _ _ _, put7_below hB (by omega) _ _ _ _ _ _ _⟩)
      · have h' : (1000 : Int) ≤ x := h
        by_cases h2 : (1000 : Int) < x
        · go_wp2_with (refine bodyPost_ret (retR rfl _ _ _ _ rfl (put7 E0.out _ _ _ _ _ _ _) rfl) rfl ?_; exact ⟨_, _, _, rfl, by omega, L.same fun ad e => put7_away (by have := HG.out ad e; omega) _ _ _ _ _ _ _, put7_below hB (by omega) _ _ _ _ _ _ _⟩)
        · obtain rfl : x = 1000 := by omega
          go_wp2_with (refine bodyPost_ret (retR rfl _ _ _ _ rfl (put7 E0.out _ _ _ _ _ _ _) rfl) rfl ?_; exact ⟨_, _, _, rfl, by omega, L.same fun ad e => put7_away (by have := HG.out ad e; omega) _ _ _ _ _ _ _, put7_below hB (by omega) _ _ _ _ _ _ _⟩)
end Ref9
end Go.Proofs.Ytlfabajceflpdaa
