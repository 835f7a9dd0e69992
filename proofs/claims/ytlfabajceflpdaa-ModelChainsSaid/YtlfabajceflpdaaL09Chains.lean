/- ModelChains: of a row of values that are done, or begun and seen, the last one of each sector is there. No condition. -/
import Derived.Test.YtlfabajceflpdaaAny9
import Derived.Test.YtlfabajceflpdaaMod5
import Derived.Deep.RegionHeld3
namespace Go.Proofs.Ytlfabajceflpdaa
open Go.RowKit Md
set_option linter.unusedVariables false
attribute [local go_sem] max2_int min2_int max_two min_two Sec.eqx Sec.guardx
theorem half_of {w : World} {a : Option Addr} {len cap : Nat} (s : Sh.ok w (.slice 1 (.int .u16)) [.slice a len cap]) : ∃ f : Nat → Int, (∀ i, 0 ≤ f i ∧ f i ≤ 65535) ∧ (len = 0 ∨ ∃ b off, a = some ⟨b, off, none⟩ ∧ ∀ i, i < len → w.cell? ⟨b, off + i, none⟩ = some (.int .u16 (f i))) := by
  simp only [Sh.ok] at s
  rcases s with h | ⟨a', len', cap', h, h1, h2, h3⟩
  · simp at h
    obtain ⟨rfl, rfl, rfl⟩ := h
    exact ⟨fun _ => 0, fun _ => ⟨Int.le_refl _, Int.le_of_lt (by decide : (0 : Int) < 65535)⟩, .inl rfl⟩
  · simp at h
    obtain ⟨rfl, rfl, rfl⟩ := h
    have each : ∀ i, ∃ n, (i < len → w.cell? (a'.add i) = some (.int .u16 n)) ∧ 0 ≤ n ∧ n ≤ 65535 := by
      intro i
      by_cases hi : i < len
      · obtain ⟨l, hl, n, rfl, hw⟩ := h3 i hi
        obtain ⟨e1, e2⟩ := cells_each hl
        have e3 := e2 0 (by decide)
        rw [Nat.mul_one] at e3
        have hw2 : 0 ≤ n ∧ n ≤ 65535 := by simpa [Lit.wf, IntKind.min, IntKind.max, IntKind.signed, IntKind.bits] using hw
        exact ⟨n, fun _ => e3, hw2⟩
      · exact ⟨0, fun h => absurd h hi, by decide, by decide⟩
    obtain ⟨b, off, sp⟩ := a'
    refine ⟨fun i => Classical.choose (each i), fun i => (Classical.choose_spec (each i)).2, ?_⟩
    rcases Nat.eq_zero_or_pos len with h0 | h0
    · exact .inl h0
    · have := World.cell?_spot ((Classical.choose_spec (each 0)).1 h0)
      simp only [Addr.add, if_true] at this
      have hs : sp = none := this
      subst hs
      refine .inr ⟨b, off, rfl, fun i hi => ?_⟩
      have e := (Classical.choose_spec (each i)).1 hi
      rw [show (⟨b, off + i, none⟩ : Addr) = (⟨b, off, none⟩ : Addr).add i from (Addr.add_lit ..).symm]
      exact e
theorem put4_away {w : World} {r g i j k l : Nat} (n : ¬ g = r) (x0 x1 x2 x3 : Value) : ((((w.setCell ⟨r, i, none⟩ x0).setCell ⟨r, j, none⟩ x1).setCell ⟨r, k, none⟩ x2).setCell ⟨r, l, none⟩ x3).heap[g]? = w.heap[g]? := by
  repeat (rw [Below.heap_setCell _ _ _ _ n])
theorem frozen_alloc {w : World} {b : Nat} {cs : Array Value} {t : TypeId} (h : w.heap[b]? = some (.cells cs t (0, 0))) (o : Obj) (i : Nat) : (w.alloc o).frozen? ⟨b, i, none⟩ = false := by
  have := ((alloc1_below w o).block b (Array.getElem?_eq_some_iff.1 h).1).trans h
  simp only [World.frozen?, this]
  simp
theorem Gv.same {w w' : World} {g n cap : Nat} {l : List V} {cur : Array Value} (h : Gv w g n cap l cur) (e : w'.heap[g]? = w.heap[g]?) : Gv w' g n cap l cur := ⟨e.trans h.at_, h.size, h.le, h.len, h.is⟩
namespace L09Chains
set_option maxHeartbeats 2000000 in
set_option maxRecDepth 100000 in
theorem ModelChains_c (a0 : Int) (a1 : Option Addr) (len1 cap1 : Nat) (w : World) (w0 : (Lit.int .u8 a0).wf = true) (s1 : Sh.ok w (.slice 1 (.int .u16)) [.slice a1 len1 cap1]) :
    Calls Try.prog 8 #[.int .u8 a0, .slice a1 len1 cap1] w fun e w' => e = .returned (.bool true) ∧ Below w.heap.size w w' := by
  have hlo : 0 ≤ a0 ∧ a0 ≤ 255 := by simpa [Lit.wf, IntKind.min, IntKind.max, IntKind.signed, IntKind.bits] using w0
  obtain ⟨f, hf, hcell⟩ := half_of s1
  clear w0 s1
  have hal := Live9.alive_c w
  by_cases k1 : 60 < len1
  · have k1' : (60 : Int) < (len1 : Int) := by omega
    go_enter Try.func8, Try.ntmps8
    go_wp2_with (go_at_call 9; refine hal.mono ?_; rintro e w1 ⟨rfl, B⟩; clear hal)
    go_ret
    exact ⟨rfl, B⟩
  · have k1' : (len1 : Int) ≤ 60 := by omega
    obtain ⟨k, ek⟩ : ∃ k : Nat, 1 + a0 % 10 = k := ⟨(1 + a0 % 10).toNat, by omega⟩
    have hk : 1 ≤ k ∧ k ≤ 10 := by omega
    have hk1 : (1 : Int) ≤ (k : Int) := by omega
    have hk2 : (k : Int) ≤ 10 := by omega
    have hn0 : Md.new k = calm (List.replicate k V.z) := by unfold Md.new; congr 2; omega
    obtain ⟨ls, hls⟩ : ∃ z, List.replicate k V.z = z := ⟨_, rfl⟩
    have hlz : Hid (ls.length = k) := by show _ = _; rw [← hls]; simp
    rw [hls] at hn0
    have hnew := fun W => Mod.new_c (w := W) (k : Int)
    rw [hn0] at hnew
    unfold stv at hnew
    have hls2 := Lib.hid hls
    clear hn0 hls
    go_enter Try.func8, Try.ntmps8
    go_wp2_with (first | (go_at_call 9; refine hal.mono ?_; rintro e w1 ⟨rfl, B⟩; clear hal) | (go_at_call 19; refine (hnew _).mono ?_; rintro e w2 ⟨a, n2, cap, rfl, hn2, La, b6⟩; clear hnew; obtain rfl : k = n2 := (La.len.symm.trans hlz.out).symm; replace B := Below.then B b6; clear b6) | (refine Mod.make_v rfl _ rfl (base := w2.heap.size + 1) (N := k) rfl hn2 (by simp) ?_; intro w3 gz hg0 hO _ g1 _; rw [hls2.out] at hO; have b5 := (Below.refl _ _).grown g1 (Nat.le_refl _) (by intro k hk; cases hk); obtain ⟨es, b6⟩ := alloc1_then b5; clear b5 g1; obtain ⟨g', capw, cur, e, hgg, G⟩ := hO.gv (by omega); cases e; clear hO; obtain ⟨ba, fa, rfl, hba⟩ := La.lt (by omega); replace La := La.below b6; have hB2 := Lib.hid B.size; replace B := Below.then B b6; have Es := Lib.hid es; have GG := Lib.hid G; have LL := Lib.hid La; clear b6 es G La))
    have hgs : ¬ gz = w2.heap.size := by omega
    have hbs : ¬ ba = w2.heap.size := by omega
    have hwg : w.heap.size ≤ w2.heap.size := by have := hB2.out; omega
    have ST := Lib.hid (show ∃ (j : Nat) (ls : List V) (ba fa cap g cw : Nat) (cur : Array Value), j ≤ len1 ∧ (Value.int .i64 (0 : Int)) = .int .i64 j ∧ (Value.slice (some ⟨gz, 0, none⟩) k k) = .slice (some ⟨g, 0, none⟩) k cw ∧ ls.length = k ∧ Gv w3 g k cw ls cur ∧ Lv w3 (some ⟨ba, fa, none⟩) k cap ls ∧ w3.heap[w2.heap.size]? = some (.cells #[.slice (some ⟨ba, fa, none⟩) k cap, .bool false, .int .i64 0, .int .u32 0, .int .u32 0, .int .u32 0, .int .u32 0] 28 (0, 0)) ∧ ¬ g = w2.heap.size ∧ ¬ ba = w2.heap.size ∧ w2.heap.size ≤ g ∧ Below w.heap.size w w3 from ⟨0, ls, ba, fa, cap, gz, k, cur, Nat.zero_le _, rfl, rfl, hlz.out, GG.out, LL.out, Es.out, hgs, hbs, by omega, B⟩)
    clear GG LL Es B hgs hbs hgg hba hg0 hls2 hlz
    go_loopw [7, 30] (fun wv i wr => ∃ (j : Nat) (ls : List V) (ba fa cap g cw : Nat) (cur : Array Value), j ≤ len1 ∧ i = .int .i64 j ∧ wv = .slice (some ⟨g, 0, none⟩) k cw ∧ ls.length = k ∧ Gv wr g k cw ls cur ∧ Lv wr (some ⟨ba, fa, none⟩) k cap ls ∧ wr.heap[w2.heap.size]? = some (.cells #[.slice (some ⟨ba, fa, none⟩) k cap, .bool false, .int .i64 0, .int .u32 0, .int .u32 0, .int .u32 0, .int .u32 0] 28 (0, 0)) ∧ ¬ g = w2.heap.size ∧ ¬ ba = w2.heap.size ∧ w2.heap.size ≤ g ∧ Below w.heap.size w wr) (fun _ i _ => len1 - (intOf i).toNat)
    case atStart => exact ST.out
    case round =>
      clear ST
      obtain ⟨j, ls, ba, fa, cap, g, cw, cur, hj, rfl, rfl, hll, hG, hL, hS, n1, n2, hg, hB⟩ := hrel
      obtain ⟨x0, x1, x2, x3, x4, x5, x6, xf⟩ := cells7 hS
      have GS := Lib.hid (And.intro hG (And.intro hL hS))
      have HB := Lib.hid (And.intro hll (And.intro n1 (And.intro n2 (And.intro hg hB))))
      by_cases hlt : j < len1
      · have hlt2 : (j : Int) < (len1 : Int) := by omega
        rcases hcell with h0 | ⟨b, off, rfl, hc⟩
        · omega
        · have c1 := (hB.cell (World.block_lt_of_cell? w _ (hc j hlt))).trans (hc j hlt)
          obtain ⟨y0, y1⟩ := hf j
          clear hc hf hG hL hS hll n1 n2 hg hB
          generalize f j = x at *
          obtain ⟨t, et⟩ : ∃ t : Nat, x % (k : Int) = t := ⟨(x % (k : Int)).toNat, by have := Int.emod_nonneg x (show (k : Int) ≠ 0 by omega); omega⟩
          have ht : t < k := by have := Int.emod_lt_of_pos x (show (0 : Int) < (k : Int) by omega); omega
          have hkz : ((k : Int) == 0) = false := by rw [beq_eq_false_iff_ne]; omega
          have hkz2 : ¬ (k : Int) = 0 := by omega
          by_cases hx2 : x % 2 = 0
          · have e2 : (x % 2 == 0) = true := by rw [hx2]; rfl
            obtain ⟨lt, hlt'⟩ : ∃ z, Hid (ls.set t ⟨x / 3, x % 7, 0, 0⟩ = z) := ⟨_, rfl⟩
            have h3 : ∀ W cap (p : Lv W (some ⟨ba, fa, none⟩) k cap ls), Calls Try.prog 13 #[.agg #[.slice (some ⟨ba, fa, none⟩) k cap, .bool false, .int .i64 0, .int .u32 0, .int .u32 0, .int .u32 0, .int .u32 0], .int .i64 t, .agg #[.int .u32 (x / 3), .int .u32 (x % 7), .int .u32 0, .int .u32 0]] W fun e w' => ∃ a' cap', e = .returned (.agg #[.slice a' k cap', .bool false, .int .i64 0, .int .u32 0, .int .u32 0, .int .u32 0, .int .u32 0]) ∧ Lv w' a' k cap' lt ∧ Below W.heap.size W w' ∧ ∀ ad, a' = some ad → W.heap.size ≤ ad.block := fun W cap p => by
              have := Mod.done_new (s := calm ls) p (by omega) ht ⟨x / 3, x % 7, 0, 0⟩
              rw [show (calm ls).sure.set t ⟨x / 3, x % 7, 0, 0⟩ = lt from hlt'.out] at this
              exact this
            have Xx0 := fun o => Lib.cell?_alloc_some o x0
            have Xx1 := fun o => Lib.cell?_alloc_some o x1
            have Xx2 := fun o => Lib.cell?_alloc_some o x2
            have Xx3 := fun o => Lib.cell?_alloc_some o x3
            have Xx4 := fun o => Lib.cell?_alloc_some o x4
            have Xx5 := fun o => Lib.cell?_alloc_some o x5
            have Xx6 := fun o => Lib.cell?_alloc_some o x6
            have m1 := HB.out.2.1
            have m2 : ¬ w2.heap.size = g := fun h => m1 h.symm
            have l1 := (Array.getElem?_eq_some_iff.1 GS.out.2.2).1
            have l2 := GS.out.1.lt
            have m3 : ¬ wr.heap.size = w2.heap.size := by omega
            have m4 : ¬ w2.heap.size = wr.heap.size := by omega
            have m5 : ¬ wr.heap.size = g := by omega
            have m6 : ¬ g = wr.heap.size := by omega
            have ht2 : (t : Int) < (k : Int) := by omega
            have ET := Lib.hid et
            have LT := Lib.hid (And.intro l1 l2)
            clear l1 l2
            go_wp2_with (go_at_call 13; rw [ET.out]; refine (h3 _ _ (GS.out.2.1.below (alloc1_below _ _))).mono ?_; rintro e w4 ⟨a4, c4, rfl, Lx, b5, hfr⟩; clear h3; obtain ⟨b4, f4, rfl, _⟩ := Lx.lt (by omega); have hb4 := hfr _ rfl; obtain ⟨ev, b6⟩ := alloc1_then b5; clear b5 hfr; obtain ⟨y0, y1, y2, y3, yf⟩ := cells4 ev; have G4 := GS.out.1.below b6; have S4 := (b6.block _ (Array.getElem?_eq_some_iff.1 GS.out.2.2).1).trans GS.out.2.2; obtain ⟨x0, x1, x2, x3, x4, x5, x6, xf⟩ := cells7 S4; obtain ⟨gf, u0, u1, u2, u3, z0, z1, z2, z3⟩ := G4.cells ht; have P4 := Lib.hid (And.intro G4 (And.intro Lx (And.intro S4 (And.intro hb4 b6)))); clear G4 Lx S4 hb4 b6 ev)
            go_roundw
            case rel =>
              obtain ⟨G4, Lx, S4, hb4, b6⟩ := P4.out
              obtain ⟨hll, n1, n2, hg, hB⟩ := HB.out
              have hb5 : wr.heap.size < b4 := by have h := hb4; simp at h; omega
              have hl1 := LT.out.1
              have hl2 := LT.out.2
              have q1 : ¬ b4 = w2.heap.size := by omega
              have q2 : ¬ b4 = g := by omega
              have hlen : lt.length = k := by rw [← hlt'.out]; simp [hll]
              obtain ⟨cur', G5⟩ := G4.put (k := t) ht ⟨x / 3, x % 7, 0, 0⟩ (put4 (put7_other G4.at_ m1 _ _ _ _ _ _ _) _ _ _ _)
              rw [hlt'.out] at G5
              first | exact ⟨j + 1, lt, b4, f4, c4, g, cw, cur', by omega, by go_num, rfl, hlen, G5, Lx.same (fun ad e => by cases e; exact (put4_away q2 _ _ _ _).trans (put7_away q1 _ _ _ _ _ _ _)), put4_other (put7 S4 _ _ _ _ _ _ _) m2 _ _ _ _, n1, q1, hg, put4_below (put7_below (Below.then hB b6) hwg _ _ _ _ _ _ _) (Nat.le_trans hwg hg) _ _ _ _⟩ | ((repeat apply Exists.intro); exact ⟨⟨j + 1, lt, b4, f4, c4, g, cw, cur', by omega, by go_num, rfl, hlen, G5, Lx.same (fun ad e => by cases e; exact (put4_away q2 _ _ _ _).trans (put7_away q1 _ _ _ _ _ _ _)), put4_other (put7 S4 _ _ _ _ _ _ _) m2 _ _ _ _, n1, q1, hg, put4_below (put7_below (Below.then hB b6) hwg _ _ _ _ _ _ _) (Nat.le_trans hwg hg) _ _ _ _⟩, rfl⟩)
            case measure => simp [intOf]; omega
          · have e2 : (x % 2 == 0) = false := by rw [beq_eq_false_iff_ne]; exact hx2
            have ht2 : (t : Int) < (k : Int) := by omega
            have ET := Lib.hid et
            have hll0 := HB.out.1
            have hbeg : Md.begun (calm ls) t ⟨x / 3, x % 7, 0, 0⟩ = ⟨ls, true, t, ⟨x / 3, x % 7, 0, 0⟩⟩ := by unfold Md.begun; rw [if_pos (has_nat (s := calm ls) (by show t < ls.length; omega))]; rfl
            have hb : ∀ W cap (p : Lv W (some ⟨ba, fa, none⟩) k cap ls), Calls Try.prog 15 #[.agg #[.slice (some ⟨ba, fa, none⟩) k cap, .bool false, .int .i64 0, .int .u32 0, .int .u32 0, .int .u32 0, .int .u32 0], .int .i64 t, .agg #[.int .u32 (x / 3), .int .u32 (x % 7), .int .u32 0, .int .u32 0]] W fun e w' => e = .returned (.agg #[.slice (some ⟨ba, fa, none⟩) k cap, .bool true, .int .i64 t, .int .u32 (x / 3), .int .u32 (x % 7), .int .u32 0, .int .u32 0]) ∧ Below W.heap.size W w' := fun W cap p =>
              (Any9.begun_m (s := calm ls) ⟨by omega, p⟩ (Lib.hid hbeg)).mono fun e w' ⟨he, _, hb⟩ => ⟨he, hb⟩
            have hs : ∀ l2, may ⟨ls, true, t, ⟨x / 3, x % 7, 0, 0⟩⟩ l2 = true → ∀ W cap kap gl (p : Lv W (some ⟨ba, fa, none⟩) k cap ls) (r : Lv W (some ⟨gl, 0, none⟩) k kap l2), Calls Try.prog 10 #[.agg #[.slice (some ⟨ba, fa, none⟩) k cap, .bool true, .int .i64 t, .int .u32 (x / 3), .int .u32 (x % 7), .int .u32 0, .int .u32 0], .slice (some ⟨gl, 0, none⟩) k kap] W fun e w' => ∃ a' kap', e = .returned (.tuple #[.agg #[.slice a' k kap', .bool false, .int .i64 0, .int .u32 0, .int .u32 0, .int .u32 0, .int .u32 0], .bool true]) ∧ Lv w' a' k kap' l2 ∧ Below W.heap.size W w' ∧ ∀ ad, a' = some ad → W.heap.size ≤ ad.block := fun l2 hq W cap kap gl p r =>
              Mod.seen_new (s := ⟨ls, true, t, ⟨x / 3, x % 7, 0, 0⟩⟩) p r (by omega) (by omega) hq
            have hq1 : may ⟨ls, true, t, ⟨x / 3, x % 7, 0, 0⟩⟩ ls = true := by unfold may; simp
            have hq2 : may ⟨ls, true, t, ⟨x / 3, x % 7, 0, 0⟩⟩ (ls.set t ⟨x / 3, x % 7, 0, 0⟩) = true := by
              unfold may; rw [has_nat (s := ⟨ls, true, t, ⟨x / 3, x % 7, 0, 0⟩⟩) (k := t) (by show t < ls.length; omega)]; simp
            obtain ⟨lt, hlt'⟩ : ∃ z, Hid (ls.set t ⟨x / 3, x % 7, 0, 0⟩ = z) := ⟨_, rfl⟩
            rw [hlt'.out] at hq2
            have hs1 := hs ls hq1
            have hs2 := hs lt hq2
            have m1 := HB.out.2.1
            have m2 : ¬ w2.heap.size = g := fun h => m1 h.symm
            have l1 := (Array.getElem?_eq_some_iff.1 GS.out.2.2).1
            have l2 := GS.out.1.lt
            have m3 : ¬ wr.heap.size = w2.heap.size := by omega
            have m4 : ¬ w2.heap.size = wr.heap.size := by omega
            have LT := Lib.hid (And.intro l1 l2)
            clear l1 l2 hs hq1 hq2 hll0 hbeg et
            by_cases hx3 : x % 3 = 0
            · have e3 : (x % 3 == 0) = true := by rw [hx3]; rfl
              clear hx3 hx2 hs1
              go_wp2_with (first | (at_builtin; rw [ET.out]; refine append_v (by go_simp) _ _ rfl (wr.heap.size + 1) _ 0 [] rfl (World.ownsRow_nil _ _ _ _) rfl (GS.out.1.lv.below (alloc1_below _ _)) (by omega) (by simp) ?_; intro u1 w4 o1 g1 _; rw [Nat.zero_add, List.nil_append] at o1; have b5 := (Below.refl _ _).grown g1 (Nat.le_refl _) (by intro k hk; cases hk); obtain ⟨gl, cl, curl, rfl, hgl, GL⟩ := o1.gv (by omega); obtain ⟨ev, b6⟩ := alloc1_then b5; clear b5 g1 o1; obtain ⟨y0, y1, y2, y3, yf⟩ := cells4 ev; have S4 := (b6.block _ (Array.getElem?_eq_some_iff.1 GS.out.2.2).1).trans GS.out.2.2; obtain ⟨x0, x1, x2, x3, x4, x5, x6, xf⟩ := cells7 S4; obtain ⟨gf, u0, u1, u2, u3, z0, z1, z2, z3⟩ := GL.cells ht; have L4 := GS.out.2.1.below b6; obtain ⟨_, _, e9, l9⟩ := GS.out.2.1.lt (by omega); cases e9; have l1 := LT.out.1; have m7 : ¬ gl = w2.heap.size := (by omega); have m8 : ¬ w2.heap.size = gl := (by omega); have m9 : ¬ gl = wr.heap.size := (by omega); have m10 : ¬ wr.heap.size = gl := (by omega); have m11 : ¬ ba = gl := (by omega); have m12 := Lib.hid (show wr.heap.size ≤ gl by omega); have P4 := Lib.hid (And.intro GL (And.intro L4 (And.intro S4 (And.intro ev b6)))); clear GL L4 S4 ev b6 hgl l1 l9) | (go_at_call 15; obtain ⟨GL, L4, S4, ev, b6⟩ := P4.out; clear P4; have s5 : ((((w4.setCell ⟨gl, t * 4, none⟩ (.int .u32 (x / 3))).setCell ⟨gl, t * 4 + 1, none⟩ (.int .u32 (x % 7))).setCell ⟨gl, t * 4 + 2, none⟩ (.int .u32 0)).setCell ⟨gl, t * 4 + 3, none⟩ (.int .u32 0)).heap[w2.heap.size]? = some (.cells #[.slice (some ⟨ba, fa, none⟩) k cap, .bool false, .int .i64 0, .int .u32 0, .int .u32 0, .int .u32 0, .int .u32 0] 28 (0, 0)) := put4_other S4 m8 _ _ _ _; have L5 : Lv ((((w4.setCell ⟨gl, t * 4, none⟩ (.int .u32 (x / 3))).setCell ⟨gl, t * 4 + 1, none⟩ (.int .u32 (x % 7))).setCell ⟨gl, t * 4 + 2, none⟩ (.int .u32 0)).setCell ⟨gl, t * 4 + 3, none⟩ (.int .u32 0)) (some ⟨ba, fa, none⟩) k cap ls := L4.same (fun ad e => by cases e; exact put4_away m11 _ _ _ _); have G5 : ∃ cur', Gv ((((w4.setCell ⟨gl, t * 4, none⟩ (.int .u32 (x / 3))).setCell ⟨gl, t * 4 + 1, none⟩ (.int .u32 (x % 7))).setCell ⟨gl, t * 4 + 2, none⟩ (.int .u32 0)).setCell ⟨gl, t * 4 + 3, none⟩ (.int .u32 0)) gl k cl lt cur' := (by rw [← hlt'.out]; exact GL.put ht ⟨x / 3, x % 7, 0, 0⟩ (put4 GL.at_ _ _ _ _)); have B5 : Below wr.heap.size wr ((((w4.setCell ⟨gl, t * 4, none⟩ (.int .u32 (x / 3))).setCell ⟨gl, t * 4 + 1, none⟩ (.int .u32 (x % 7))).setCell ⟨gl, t * 4 + 2, none⟩ (.int .u32 0)).setCell ⟨gl, t * 4 + 3, none⟩ (.int .u32 0)) := put4_below b6 m12.out _ _ _ _; clear GL L4 S4 ev b6 x0 x1 x2 x3 x4 x5 x6 xf y0 y1 y2 y3 yf gf z0 z1 z2 z3; generalize ((((w4.setCell ⟨gl, t * 4, none⟩ (.int .u32 (x / 3))).setCell ⟨gl, t * 4 + 1, none⟩ (.int .u32 (x % 7))).setCell ⟨gl, t * 4 + 2, none⟩ (.int .u32 0)).setCell ⟨gl, t * 4 + 3, none⟩ (.int .u32 0)) = wS at *; obtain ⟨cur5, G5⟩ := G5; refine (hb _ _ L5).mono ?_; rintro e w5 ⟨rfl, b7⟩; clear hb; have S6 := (b7.block _ (Array.getElem?_eq_some_iff.1 s5).1).trans s5; have P6 := Lib.hid (And.intro (G5.below b7) (And.intro (L5.below b7) (And.intro S6 (Below.then B5 b7)))); clear s5 L5 G5 B5 b7 S6) | (go_at_call 10; refine (hs2 _ _ _ _ P6.out.2.1 P6.out.1.lv).mono ?_; rintro e w6 ⟨a6, c6, rfl, Lx, b8, hfr⟩; clear hs2; obtain ⟨b4, f4, rfl, _⟩ := Lx.lt (by omega); have hb4 := hfr _ rfl; obtain ⟨G6, L6, S6, B6⟩ := P6.out; clear P6; have S7 := (b8.block _ (Array.getElem?_eq_some_iff.1 S6).1).trans S6; obtain ⟨x0, x1, x2, x3, x4, x5, x6, xf⟩ := cells7 S7; have Xx0 := fun o => Lib.cell?_alloc_some o x0; have Xx1 := fun o => Lib.cell?_alloc_some o x1; have Xx2 := fun o => Lib.cell?_alloc_some o x2; have Xx3 := fun o => Lib.cell?_alloc_some o x3; have Xx4 := fun o => Lib.cell?_alloc_some o x4; have Xx5 := fun o => Lib.cell?_alloc_some o x5; have Xx6 := fun o => Lib.cell?_alloc_some o x6; have xfA := frozen_alloc S7; have P7 := Lib.hid (And.intro (G6.below b8) (And.intro Lx (And.intro S7 (And.intro (show w5.heap.size ≤ b4 from hb4) (And.intro B6 b8))))); clear G6 L6 S6 B6 S7 Lx hb4 hfr b8))
              go_roundw
              case rel =>
                obtain ⟨G7, Lx, S7, hb4, B6, b8⟩ := P7.out
                obtain ⟨hll, n1, n2, hg, hB⟩ := HB.out
                have l1 := LT.out.1
                have l6 := B6.size
                have q1 : ¬ b4 = w2.heap.size := by omega
                have m12' := m12.out
                have hlen : (lt).length = k := by rw [← hlt'.out]; simp [hll]
                first | exact ⟨j + 1, lt, b4, f4, c6, gl, cl, _, by omega, by go_num, rfl, hlen, (G7.below (alloc1_below _ _)).same (put7_away m7 _ _ _ _ _ _ _), (Lx.below (alloc1_below _ _)).same (fun ad e => by cases e; exact put7_away q1 _ _ _ _ _ _ _), put7 (((alloc1_below _ _).block _ (Array.getElem?_eq_some_iff.1 S7).1).trans S7) _ _ _ _ _ _ _, m7, q1, by omega, put7_below (Below.then (Below.then (Below.then hB B6) b8) (alloc1_below _ _)) hwg _ _ _ _ _ _ _⟩ | ((repeat apply Exists.intro); exact ⟨⟨j + 1, lt, b4, f4, c6, gl, cl, _, by omega, by go_num, rfl, hlen, (G7.below (alloc1_below _ _)).same (put7_away m7 _ _ _ _ _ _ _), (Lx.below (alloc1_below _ _)).same (fun ad e => by cases e; exact put7_away q1 _ _ _ _ _ _ _), put7 (((alloc1_below _ _).block _ (Array.getElem?_eq_some_iff.1 S7).1).trans S7) _ _ _ _ _ _ _, m7, q1, by omega, put7_below (Below.then (Below.then (Below.then hB B6) b8) (alloc1_below _ _)) hwg _ _ _ _ _ _ _⟩, rfl⟩)
              case measure => simp [intOf]; omega
            · have e3 : (x % 3 == 0) = false := by rw [beq_eq_false_iff_ne]; exact hx3
              clear hx3 hx2 hs2
              go_wp2_with (first | (at_builtin; rw [ET.out]; refine append_v (by go_simp) _ _ rfl (wr.heap.size + 1) _ 0 [] rfl (World.ownsRow_nil _ _ _ _) rfl (GS.out.1.lv.below (alloc1_below _ _)) (by omega) (by simp) ?_; intro u1 w4 o1 g1 _; rw [Nat.zero_add, List.nil_append] at o1; have b5 := (Below.refl _ _).grown g1 (Nat.le_refl _) (by intro k hk; cases hk); obtain ⟨gl, cl, curl, rfl, hgl, GL⟩ := o1.gv (by omega); obtain ⟨ev, b6⟩ := alloc1_then b5; clear b5 g1 o1; obtain ⟨y0, y1, y2, y3, yf⟩ := cells4 ev; have S4 := (b6.block _ (Array.getElem?_eq_some_iff.1 GS.out.2.2).1).trans GS.out.2.2; obtain ⟨x0, x1, x2, x3, x4, x5, x6, xf⟩ := cells7 S4; obtain ⟨gf, u0, u1, u2, u3, z0, z1, z2, z3⟩ := GL.cells ht; have L4 := GS.out.2.1.below b6; obtain ⟨_, _, e9, l9⟩ := GS.out.2.1.lt (by omega); cases e9; have l1 := LT.out.1; have m7 : ¬ gl = w2.heap.size := (by omega); have m8 : ¬ w2.heap.size = gl := (by omega); have m9 : ¬ gl = wr.heap.size := (by omega); have m10 : ¬ wr.heap.size = gl := (by omega); have m11 : ¬ ba = gl := (by omega); have m12 := Lib.hid (show wr.heap.size ≤ gl by omega); have P4 := Lib.hid (And.intro GL (And.intro L4 (And.intro S4 (And.intro ev b6)))); clear GL L4 S4 ev b6 hgl l1 l9) | (go_at_call 15; obtain ⟨G5, L5, s5, ev, B5⟩ := P4.out; clear P4 ev x0 x1 x2 x3 x4 x5 x6 xf y0 y1 y2 y3 yf gf z0 z1 z2 z3; refine (hb _ _ L5).mono ?_; rintro e w5 ⟨rfl, b7⟩; clear hb; have S6 := (b7.block _ (Array.getElem?_eq_some_iff.1 s5).1).trans s5; have P6 := Lib.hid (And.intro (G5.below b7) (And.intro (L5.below b7) (And.intro S6 (Below.then B5 b7)))); clear s5 L5 G5 B5 b7 S6) | (go_at_call 10; refine (hs1 _ _ _ _ P6.out.2.1 P6.out.1.lv).mono ?_; rintro e w6 ⟨a6, c6, rfl, Lx, b8, hfr⟩; clear hs1; obtain ⟨b4, f4, rfl, _⟩ := Lx.lt (by omega); have hb4 := hfr _ rfl; obtain ⟨G6, L6, S6, B6⟩ := P6.out; clear P6; have S7 := (b8.block _ (Array.getElem?_eq_some_iff.1 S6).1).trans S6; obtain ⟨x0, x1, x2, x3, x4, x5, x6, xf⟩ := cells7 S7; have Xx0 := fun o => Lib.cell?_alloc_some o x0; have Xx1 := fun o => Lib.cell?_alloc_some o x1; have Xx2 := fun o => Lib.cell?_alloc_some o x2; have Xx3 := fun o => Lib.cell?_alloc_some o x3; have Xx4 := fun o => Lib.cell?_alloc_some o x4; have Xx5 := fun o => Lib.cell?_alloc_some o x5; have Xx6 := fun o => Lib.cell?_alloc_some o x6; have xfA := frozen_alloc S7; have P7 := Lib.hid (And.intro (G6.below b8) (And.intro Lx (And.intro S7 (And.intro (show w5.heap.size ≤ b4 from hb4) (And.intro B6 b8))))); clear G6 L6 S6 B6 S7 Lx hb4 hfr b8))
              go_roundw
              case rel =>
                obtain ⟨G7, Lx, S7, hb4, B6, b8⟩ := P7.out
                obtain ⟨hll, n1, n2, hg, hB⟩ := HB.out
                have l1 := LT.out.1
                have l6 := B6.size
                have q1 : ¬ b4 = w2.heap.size := by omega
                have m12' := m12.out
                have hlen : (ls).length = k := by exact hll
                first | exact ⟨j + 1, ls, b4, f4, c6, gl, cl, _, by omega, by go_num, rfl, hlen, (G7.below (alloc1_below _ _)).same (put7_away m7 _ _ _ _ _ _ _), (Lx.below (alloc1_below _ _)).same (fun ad e => by cases e; exact put7_away q1 _ _ _ _ _ _ _), put7 (((alloc1_below _ _).block _ (Array.getElem?_eq_some_iff.1 S7).1).trans S7) _ _ _ _ _ _ _, m7, q1, by omega, put7_below (Below.then (Below.then (Below.then hB B6) b8) (alloc1_below _ _)) hwg _ _ _ _ _ _ _⟩ | ((repeat apply Exists.intro); exact ⟨⟨j + 1, ls, b4, f4, c6, gl, cl, _, by omega, by go_num, rfl, hlen, (G7.below (alloc1_below _ _)).same (put7_away m7 _ _ _ _ _ _ _), (Lx.below (alloc1_below _ _)).same (fun ad e => by cases e; exact put7_away q1 _ _ _ _ _ _ _), put7 (((alloc1_below _ _).block _ (Array.getElem?_eq_some_iff.1 S7).1).trans S7) _ _ _ _ _ _ _, m7, q1, by omega, put7_below (Below.then (Below.then (Below.then hB B6) b8) (alloc1_below _ _)) hwg _ _ _ _ _ _ _⟩, rfl⟩)
              case measure => simp [intOf]; omega
      · have hlt2 : (len1 : Int) ≤ (j : Int) := by omega
        have hq : Hid (may (calm ls) ls = true) := by show _ = _; unfold may calm; simp
        have hm : ∀ W (b : Below wr.heap.size wr W), Calls Try.prog 17 #[.agg #[.slice (some ⟨ba, fa, none⟩) k cap, .bool false, .int .i64 0, .int .u32 0, .int .u32 0, .int .u32 0, .int .u32 0], .slice (some ⟨g, 0, none⟩) k cw] W fun e w' => e = .returned (.bool true) ∧ Below W.heap.size W w' := fun W b => Any9.may_m (s := calm ls) ⟨by omega, hL.below b⟩ ((hG.lv).below b) (by omega) hq
        clear hG hL hS hll n1 n2 hg hcell hf
        replace hB := Lib.hid hB
        go_wp2_with (go_at_call 17; refine (hm _ (by first | exact Below.refl _ _ | exact below_drew _)).mono ?_; rintro e w5 ⟨rfl, b7⟩; (try replace b7 := undrew b7); clear hm; have S6 := (b7.block _ (Array.getElem?_eq_some_iff.1 GS.out.2.2).1).trans GS.out.2.2; obtain ⟨x0, x1, x2, x3, x4, x5, x6, xf⟩ := cells7 S6; have B7 := Lib.hid (Below.then hB.out b7); clear b7 S6)
        go_ret
        exact ⟨rfl, B7.out⟩
end L09Chains
end Go.Proofs.Ytlfabajceflpdaa
