/- Contracts of package model (5): what is made anew lies apart. -/
import Derived.Test.YtlfabajceflpdaaAny9
namespace Go.Proofs.Ytlfabajceflpdaa
open Go.RowKit Md
set_option linter.unusedVariables false
attribute [local go_sem] max2_int min2_int max_two min_two Sec.eqx Sec.guardx
namespace Mod
set_option maxHeartbeats 400000 in
set_option maxRecDepth 100000 in
theorem done_new {w : World} {a : Option Addr} {n cap : Nat} {s : St} (hl : Lv w a n cap s.sure) (hn : n ≤ 2000) {k : Nat} (hk0 : k < n) (v : V) :
    Calls Try.prog 13 #[stv a n cap s, .int .i64 k, vv v] w fun e w' => ∃ a' cap', e = .returned (stv a' n cap' (calm (s.sure.set k v))) ∧ Lv w' a' n cap' (s.sure.set k v) ∧ Below w.heap.size w w' ∧ ∀ ad, a' = some ad → w.heap.size ≤ ad.block := by
  have h1 := hl.len
  have h2 : (n : Int) ≤ 2000 := by omega
  have hh : has s (k : Int) = true := has_nat (by omega)
  have hc : ∀ W, Below w.heap.size w W → Calls Try.prog 23 #[stv a n cap s, .int .i64 k] W fun e w' => e = .returned (.bool (has s k)) ∧ W.alloc (sbox a n cap s) = w' := fun W hb => has_c (hl.below hb) hn k
  unfold stv vv sbox at *
  rw [hh] at hc
  have hk2 : (k : Int) < (n : Int) := by omega
  go_enter Try.func13, Try.ntmps13
  go_wp2_with (first | (go_at_call 23; refine (hc _ (alloc3_below _ _ _ _)).mono ?_; rintro e w1 ⟨rfl, rfl⟩; clear hc) | (go_at_call 22; refine (clone_c (hl.below (alloc4_below _ _ _ _ _)) hn).mono ?_; rintro e w2 ⟨v2, rfl, o2, b3⟩; obtain ⟨g, cap2, cur, rfl, hg, G⟩ := o2.gv (by omega); obtain ⟨gf, u0, u1, u2, u3, z0, z1, z2, z3⟩ := G.cells (k := k) (by omega); obtain ⟨e0, e1, e2, b4⟩ := alloc4_then b3; obtain ⟨v0, v1, v2, v3, _⟩ := cells4 e1; obtain ⟨y0, y1, y2, y3, y4, y5, y6, y7⟩ := cells7 e2; have E2 := Lib.hid e2; have B4 := Lib.hid b4; have GG := Lib.hid G; clear e0 e1 e2 b3 b4 o2 G; have hg2 : w.heap.size + 4 ≤ g := (by simpa using hg); clear hg; have n1 : ¬ g = w.heap.size + 1 + 1 := (by omega); have n2 : ¬ w.heap.size + 1 + 1 = g := (by omega)) | (refine bodyPost_ret (retM rfl _ _ _ _ rfl (put7 (put4_other E2.out n2 _ _ _ _) _ _ _ _ _ _ _) rfl) rfl ?_; obtain ⟨cur', G2⟩ := GG.out.put (k := k) (by omega) v (put7_other (put4 GG.out.at_ _ _ _ _) n1 _ _ _ _ _ _ _); exact ⟨_, _, rfl, G2.lv, put7_below (put4_below B4.out (by omega) _ _ _ _) (by omega) _ _ _ _ _ _ _, fun ad e => by cases e; show w.heap.size ≤ g; omega⟩))
set_option maxHeartbeats 400000 in
set_option maxRecDepth 100000 in
theorem seen_new {w : World} {a b : Option Addr} {n cap m kap : Nat} {s : St} {l : List V} (hl : Lv w a n cap s.sure) (hk : Lv w b m kap l) (hn : n ≤ 2000) (hm : m ≤ 2000) (hq : may s l = true) :
    Calls Try.prog 10 #[stv a n cap s, .slice b m kap] w fun e w' => ∃ a' kap', e = .returned (.tuple #[stv a' m kap' (calm l), .bool true]) ∧ Lv w' a' m kap' l ∧ Below w.heap.size w w' ∧ ∀ ad, a' = some ad → w.heap.size ≤ ad.block := by
  have hM : ∀ o1 o2, Calls Try.prog 17 #[stv a n cap s, .slice b m kap] ((w.alloc o1).alloc o2) fun e w' => e = .returned (.bool true) ∧ Below ((w.alloc o1).alloc o2).heap.size ((w.alloc o1).alloc o2) w' := fun o1 o2 => by
    have := may_c (hl.below (alloc2_below w o1 o2)) (hk.below (alloc2_below w o1 o2)) hn hm
    rw [hq] at this
    exact this
  unfold stv at *
  clear hq
  go_enter Try.func10, Try.ntmps10
  go_wp2_with (first | (go_at_call 17; refine (hM _ _).mono ?_; rintro e w1 ⟨rfl, b1⟩; clear hM; obtain ⟨e0, e1, b2⟩ := alloc2_then b1; have lt1 := (Array.getElem?_eq_some_iff.1 e1).1; have hs1 := Lib.hid b2.size; clear b1 e0; have E1 := Lib.hid e1; clear e1) | (go_at_call 22; refine (clone_c (hk.below b2) hm).mono ?_; rintro e w2 ⟨v2, rfl, o2, b3⟩; replace E1 := Lib.hid ((b3.block _ (Array.getElem?_eq_some_iff.1 E1.out).1).trans E1.out); replace b2 := Below.then b2 b3; obtain ⟨a', kap', rfl, L2, hge⟩ := OwnsV.lv o2; obtain ⟨y0, y1, y2, y3, y4, y5, y6, y7⟩ := cells7 E1.out))
  exact bodyPost_ret (retM2 rfl _ _ _ _ _ rfl rfl (put7 E1.out _ _ _ _ _ _ _) rfl) rfl ⟨_, _, rfl, L2.same fun ad e => put7_away (by have := hge ad e; omega) _ _ _ _ _ _ _, put7_below b2 (by omega) _ _ _ _ _ _ _, fun ad e => Nat.le_trans hs1.out (hge ad e)⟩
end Mod
theorem Lv.lt {w : World} {a : Option Addr} {n cap : Nat} {l : List V} (h : Lv w a n cap l) (hn : 0 < n) : ∃ b off, a = some ⟨b, off, none⟩ ∧ b < w.heap.size := by
  obtain ⟨b, off, rfl, hv⟩ := h.at_ hn
  exact ⟨b, off, rfl, World.block_lt_of_cell? w _ (hv 0 hn).1⟩
theorem Gv.below {w w' : World} {g n cap : Nat} {l : List V} {cur : Array Value} (h : Gv w g n cap l cur) (b : Below w.heap.size w w') : Gv w' g n cap l cur :=
  ⟨(b.block g (Array.getElem?_eq_some_iff.1 h.at_).1).trans h.at_, h.size, h.le, h.len, h.is⟩
theorem Gv.lt {w : World} {g n cap : Nat} {l : List V} {cur : Array Value} (h : Gv w g n cap l cur) : g < w.heap.size := (Array.getElem?_eq_some_iff.1 h.at_).1
end Go.Proofs.Ytlfabajceflpdaa
