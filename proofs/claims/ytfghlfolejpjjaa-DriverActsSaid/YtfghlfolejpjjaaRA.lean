/- The parts: NrR Rnor Rnor2 Rbox Rnor3 Rnor4 Rnor5 Rnor6 Rnor7. -/
import Derived.Test.YtfghlfolejpjjaaNr
import Derived.Test.YtfghlfolejpjjaaSl
import Derived.Test.YtfghlfolejpjjaaRef1
import Derived.BigRegion
import Derived.Laws.Rows
import Derived.Test.YtfghlfolejpjjaaOwn
/- The reference's chip: plain laws that join it to the plain chip. No program. -/
namespace Go.Proofs.Ytfghlfolejpjjaa.Nr
open Go.RowKit
set_option linter.unusedSimpArgs false
/-- So many lowest bits of both words. -/
def andN (k : Nat) (a b : Int) : Int := Bt.W fun j => decide (j < k) && (Bt.tb a j && Bt.tb b j)
theorem andN_rng (k : Nat) (a b : Int) : 0 ≤ andN k a b ∧ andN k a b < 4294967296 := ⟨Bt.W_nonneg _, Bt.W_lt _⟩
theorem andN_zero (a b : Int) : andN 0 a b = 0 := Bt.ext (Bt.W_nonneg _) (Bt.W_lt _) (by decide) (by decide) fun i hi hi' => by
  unfold andN; rw [Bt.tb_W, Bt.tb_zero]
  have : decide (i < ((0 : Nat) : Int)) = false := decide_eq_false (by omega)
  rw [this, Bool.false_and, Bool.and_false]
theorem andN_end {a b : Int} (ha : 0 ≤ a) (ha' : a < 4294967296) (hb : 0 ≤ b) (hb' : b < 4294967296) : andN 32 a b = bits .and .u32 a b := by
  have hr := Bt.rng_and ha ha' hb hb'
  refine Bt.ext (Bt.W_nonneg _) (Bt.W_lt _) hr.1 hr.2 fun i hi hi' => ?_
  unfold andN
  rw [Bt.tb_W, Bt.tb_and ha ha' hb hb']
  have : i < ((32 : Nat) : Int) := by omega
  simp [hi, hi', this]
theorem field1 (w i : Int) : Bt.field w i 1 = if Bt.tb w i then 1 else 0 := by
  refine Bt.ext (Bt.field_rng _ _ _).1 (Bt.field_rng _ _ _).2 (by split <;> decide) (by split <;> decide) fun j hj hj' => ?_
  rw [Bt.tb_field hj hj']
  by_cases e : j = 0
  · subst e
    rw [Int.add_zero]
    cases Bt.tb w i <;> rfl
  · have h1 : ¬ j < 1 := by omega
    have h2 : Bt.tb 1 j = false := by
      obtain ⟨n, rfl⟩ := Int.eq_ofNat_of_zero_le hj
      obtain ⟨m, rfl⟩ : ∃ m, n = m + 1 := ⟨n - 1, by omega⟩
      simp [Bt.tb, Nat.testBit_succ]
    rw [decide_eq_false h1]
    cases Bt.tb w i
    · simp [Bt.tb_zero]
    · simp [h2]
theorem mul_bit (a b i : Int) : Bt.field a i 1 * Bt.field b i 1 = if Bt.tb a i && Bt.tb b i then 1 else 0 := by
  rw [field1, field1]
  cases Bt.tb a i <;> cases Bt.tb b i <;> rfl
theorem mul_rng (a b i : Int) : 0 ≤ Bt.field a i 1 * Bt.field b i 1 ∧ Bt.field a i 1 * Bt.field b i 1 ≤ 1 := by
  rw [mul_bit]; split <;> omega
theorem andN_succ {k : Nat} (a b : Int) (hk : k < 32) : Bt.put (andN k a b) k 1 (Bt.field a k 1 * Bt.field b k 1) = andN (k + 1) a b := by
  refine Bt.ext (Bt.put_rng _ _ _ _).1 (Bt.put_rng _ _ _ _).2 (Bt.W_nonneg _) (Bt.W_lt _) fun i hi hi' => ?_
  rw [Bt.tb_put hi hi', mul_bit]
  unfold andN
  rw [Bt.tb_W, Bt.tb_W]
  by_cases c : (k : Int) ≤ i ∧ i < k + 1 ∧ i < k + 32
  · rw [if_pos c]
    obtain rfl : i = k := by omega
    rw [Int.sub_self]
    have h1 : (k : Int) < ((k + 1 : Nat) : Int) := by omega
    have h2 : (k : Int) < 32 := by omega
    cases Bt.tb a k <;> cases Bt.tb b k <;> simp [hi, h1, h2, Bt.tb]
    all_goals omega
  · rw [if_neg c]
    have h1 : decide (i < ((k + 1 : Nat) : Int)) = decide (i < (k : Int)) := by
      by_cases d : i < (k : Int)
      · rw [decide_eq_true d, decide_eq_true (by omega)]
      · rw [decide_eq_false d, decide_eq_false (by omega)]
    rw [h1]
/-- One more word in the place of one. -/
theorem put_list (l : List Int) (at_ : Nat) (v : Int) (h : at_ < l.length) : l.take at_ ++ [v] ++ l.drop (at_ + 1) = l.set at_ v := by
  rw [List.set_eq_take_append_cons_drop, if_pos h, List.append_assoc]
  rfl
theorem turn_0 {w : Int} (hw : 0 ≤ w) (hw' : w < 4294967296) : Bt.turn w 0 = w := by
  refine (Bt.eq_W hw hw' fun i hi hi' => ?_).symm
  rw [Int.sub_zero, Int.emod_eq_of_lt hi (by omega)]
end Go.Proofs.Ytfghlfolejpjjaa.Nr

/- The reference's chip: contracts of package dioptraref02. -/
namespace Go.Proofs.Ytfghlfolejpjjaa
open Go.RowKit
set_option linter.unusedVariables false
attribute [local go_sem] max2_int min2_int max_two min_two
namespace Rnor
theorem row_own {w : World} {B n : Nat} {v : Value} {zs : List Int} (h : w.ownsRow B 34 1 v n (zs.map (Value.int .u32))) (hn : 0 < n) :
    ∃ a kap, v = .slice (some ⟨a, 0, none⟩) n kap ∧ n ≤ kap ∧ B ≤ a ∧ zs.length = n ∧ Row w a zs := by
  obtain ⟨h1, ⟨rfl, rfl⟩ | ⟨g, cap, cur, rfl, hb, hg, hc, hm, hs, ht⟩⟩ := h
  · omega
  · have hl : zs.length = n := by simpa using h1
    refine ⟨g, cap, rfl, hc, hb, hl, cur, hg, fun i hi => ?_⟩
    have e : (cur.toList.take (n * 1))[i]? = (zs.map (Value.int .u32))[i]? := by rw [ht]
    rw [List.getElem?_take, if_pos (by omega), List.getElem?_map, List.getElem?_eq_getElem hi] at e
    rw [← Array.getElem?_toList, e]
    simp [List.getD, hi]
/-- Words behind one another are appended to a row of the call's own. -/
theorem append_r {w : World} {ops : Array Oper} {rest : List Oper} {o : Oper} {a : Act} {Q : Exit → Act → World → Prop} (hgd : Region.wanted o (yielded ops a.tmps) = true) (s x : Operand)
    (ho : o.op = .call { callee := .builtin .append, args := #[s, x], argTypes := #[22, 22] })
    (base : Nat) (v : Value) (n : Nat) (xs : List Int) (hs : a.eval s = v) (hown : w.ownsRow base 34 1 v n (xs.map (Value.int .u32)))
    {b off m c : Nat} {zs : List Int} (hx : a.eval x = .slice (some ⟨b, off, none⟩) m c) (hl : zs.length = m) (hc : ∀ i, i < m → w.cell? ⟨b, off + i, none⟩ = some (.int .u32 (zs.getD i 0))) (hbig : n + m ≤ 100000) (hbase : base ≤ w.heap.size)
    (h : ∀ v' w', w'.ownsRow base 34 1 v' (n + m) ((xs ++ zs).map (Value.int .u32)) → w.grownBy w' v.ownBlock → wpList Try.prog ops Q rest (a.put o.dst v') w') : wpList Try.prog ops Q (o :: rest) a w := by
  obtain ⟨i0, hi, hz0, hz1, hz2⟩ := info_parts Sl.info32
  refine wpList_step fun K hK => ?_
  rw [if_pos hgd]
  refine wp_append_own w s x _ ho base 34 i0 (.int .u32 0) 1 4 Sl.under32 hi hz0 hz1 hz2 rfl (by decide) v n _ hs hown ⟨b, off, none⟩ m c (zs.map (Value.int .u32)) hx (by simp [hl]) ?_ ?_ (by unfold maxLen; omega) (by omega) hbase ?_
  · intro j u hj
    have hjn : j < zs.length := by
      have := (List.getElem?_eq_some_iff.1 hj).1
      simpa using this
    rw [Addr.add_lit, hc j (by omega)]
    have e : (zs.map (Value.int .u32))[j]? = some (Value.int .u32 (zs.getD j 0)) := by simp [List.getD, hjn]
    rw [e] at hj
    exact hj
  · intro u hu; obtain ⟨x, _, rfl⟩ := List.mem_map.1 hu; rfl
  · intro v' w' h1 h2 _
    exact hK _ _ (h v' w' (by simpa using h1) h2)
theorem src_take {w : World} {b m : Nat} {zs : List Int} (h : Row w b zs) (hm : m < zs.length) (i : Nat) (hi : i < m) : w.cell? ⟨b, 0 + i, none⟩ = some (.int .u32 ((zs.take m).getD i 0)) := by
  rw [Nat.zero_add, h.cell (show i < zs.length by omega)]
  simp [List.getD, hi]
theorem src_drop {w : World} {b m : Nat} {zs : List Int} (h : Row w b zs) (i : Nat) (hi : i < zs.length - m) : w.cell? ⟨b, m + i, none⟩ = some (.int .u32 ((zs.drop m).getD i 0)) := by
  rw [h.cell (show m + i < zs.length by omega)]
  simp [List.getD]
/-- A row that came of one made by the call: nothing that was there has turned. -/
theorem made_grown {w w' : World} {o : Obj} {k m : Nat} (g : (w.alloc o).grownBy w' (Value.slice (some ⟨w.heap.size, 0, none⟩) k m).ownBlock) : Below w.heap.size w w' :=
  ((Below.refl _ w).alloc (Nat.le_refl _) o).grown g (by simp) (by intro k hk; simp [Value.ownBlock] at hk; omega)
theorem own_grown {w0 w w' : World} {B n : Nat} {v : Value} {l : List Value} (hb : Below B w0 w) (hB : B ≤ w.heap.size) (h : w.ownsRow B 34 1 v n l) (g : w.grownBy w' v.ownBlock) : Below B w0 w' :=
  hb.grown g hB (fun k hk => (World.ownsRow.lt h k hk).1)
theorem one_cell (w : World) (v : Int) (i : Nat) (hi : i < 1) : (w.alloc (.cells #[.int .u32 v] 34)).cell? ⟨w.heap.size, 0 + i, none⟩ = some (.int .u32 ([v].getD i 0)) := by
  obtain rfl : i = 0 := by omega
  exact World.cell?_alloc_mark w #[.int .u32 v] 34 (0, 0) 0
set_option maxHeartbeats 2000000 in
set_option maxRecDepth 100000 in
theorem put_c {w : World} {b k m : Nat} {v : Int} {zs : List Int} (hm : m < zs.length) (hk : zs.length ≤ k) (hbig : zs.length ≤ 4096) (hr : Row w b zs) :
    Calls Try.prog 91 #[.slice (some ⟨b, 0, none⟩) zs.length k, .int .i64 m, .int .u32 v] w fun e w' => ∃ a kap, e = .returned (.slice (some ⟨a, 0, none⟩) zs.length kap) ∧ zs.length ≤ kap ∧ w.heap.size ≤ a ∧ Row w' a (zs.set m v) ∧ Below w.heap.size w w' := by
  have hm1 : (m : Int) < (zs.length : Int) := by omega
  have hk1 : (zs.length : Int) ≤ (k : Int) := by omega
  have hb1 : (zs.length : Int) ≤ 4096 := by omega
  have ha : ∀ o, Row (w.alloc o) b zs := fun o => hr.below ((Below.refl _ _).alloc (Nat.le_refl _) o)
  have HA := Lib.hid ha
  have HR := Lib.hid hr
  clear hr ha
  have e1 : (zs.take m).length = m := by simp; omega
  have e2 : (zs.drop (m + 1)).length = zs.length - (m + 1) := by simp
  by_cases hkm : k = m + 1
  · have hz : zs.length = m + 1 := by omega
    go_enter Try.func91, Try.ntmps91
    go_wp2_with (first
      | (at_builtin; refine append_r (by go_simp) _ _ rfl w.heap.size _ 0 [] rfl (World.ownsRow_made w #[] 0 (Nat.le_refl _) (Nat.zero_le _) rfl) (b := b) (off := 0) (m := m) (zs := zs.take m) rfl e1 (src_take (HA.out _) hm) (by omega) (by simp) ?_; intro v1 w1 o1 g1; rw [Nat.zero_add, List.nil_append] at o1; have B1 := made_grown g1; clear g1; have B0 := B1.size)
      | (at_builtin; refine append_r (by go_simp) _ _ rfl w.heap.size _ m _ rfl (o1.alloc _) (b := w1.heap.size) (off := 0) (m := 1) (zs := [v]) rfl rfl (one_cell w1 v) (by omega) (by simp; omega) ?_; intro v2 w2 o2 g2; have B2 := own_grown (B1.alloc B0 _) (by simp; omega) (o1.alloc _) g2; clear g2 B1 o1; have B3 := B2.size)
      | (at_builtin; refine append_r (by go_simp) _ _ rfl w.heap.size _ (m + 1) _ rfl o2 (zs := zs.drop (m + 1)) rfl (by omega) (fun i hi => absurd hi (by omega)) (by omega) B3 ?_; intro v3 w3 o3 g3; have B4 := own_grown B2 B3 o2 g3; clear g3 B2 o2))
    go_ret
    rw [Nr.put_list _ _ _ hm, show m + 1 + 0 = zs.length by omega] at o3
    obtain ⟨a, kap, rfl, h1, h2, h3, h4⟩ := row_own o3 (by omega)
    exact ⟨a, kap, rfl, h1, h2, h4, B4⟩
  · have hkm2 : m + 1 < k := by omega
    go_enter Try.func91, Try.ntmps91
    go_wp2_with (first
      | (at_builtin; refine append_r (by go_simp) _ _ rfl w.heap.size _ 0 [] rfl (World.ownsRow_made w #[] 0 (Nat.le_refl _) (Nat.zero_le _) rfl) (b := b) (off := 0) (m := m) (zs := zs.take m) rfl e1 (src_take (HA.out _) hm) (by omega) (by simp) ?_; intro v1 w1 o1 g1; rw [Nat.zero_add, List.nil_append] at o1; have B1 := made_grown g1; clear g1; have B0 := B1.size)
      | (at_builtin; refine append_r (by go_simp) _ _ rfl w.heap.size _ m _ rfl (o1.alloc _) (b := w1.heap.size) (off := 0) (m := 1) (zs := [v]) rfl rfl (one_cell w1 v) (by omega) (by simp; omega) ?_; intro v2 w2 o2 g2; have B2 := own_grown (B1.alloc B0 _) (by simp; omega) (o1.alloc _) g2; clear g2 B1 o1; have B3 := B2.size)
      | (at_builtin; refine append_r (by go_simp) _ _ rfl w.heap.size _ (m + 1) _ rfl o2 (b := b) (off := m + 1) (m := zs.length - (m + 1)) (zs := zs.drop (m + 1)) rfl e2 (src_drop (HR.out.below B2)) (by omega) B3 ?_; intro v3 w3 o3 g3; have B4 := own_grown B2 B3 o2 g3; clear g3 B2 o2))
    go_ret
    rw [Nr.put_list _ _ _ hm, show m + 1 + (zs.length - (m + 1)) = zs.length by omega] at o3
    obtain ⟨a, kap, rfl, h1, h2, h3, h4⟩ := row_own o3 (by omega)
    exact ⟨a, kap, rfl, h1, h2, h4, B4⟩
end Rnor
end Go.Proofs.Ytfghlfolejpjjaa

/- The reference's chip: what is wrong with a place, a fuse that burns, a word that is changed. -/
namespace Go.Proofs.Ytfghlfolejpjjaa
open Go.RowKit
set_option linter.unusedVariables false
attribute [local go_sem] max2_int min2_int max_two min_two
/-- Numbers in a block. -/
def IRow (w : World) (a : Nat) (zs : List Int) : Prop := ∃ cur, w.heap[a]? = some (.cells cur 3 (0, 0)) ∧ ∀ i, i < zs.length → cur[i]? = some (.int .i64 (zs.getD i 0))
theorem IRow.cell {w : World} {a : Nat} {zs : List Int} (h : IRow w a zs) {i : Nat} (hi : i < zs.length) : w.cell? ⟨a, i, none⟩ = some (.int .i64 (zs.getD i 0)) := by
  obtain ⟨cur, e, hc⟩ := h
  simp only [World.cell?, e]; exact hc i hi
theorem IRow.lt {w : World} {a : Nat} {zs : List Int} (h : IRow w a zs) : a < w.heap.size := by
  obtain ⟨cur, e, hc⟩ := h
  exact (Array.getElem?_eq_some_iff.1 e).1
theorem IRow.keep {w w' : World} {S : Nat → Prop} {a : Nat} {zs : List Int} (h : IRow w a zs) (hk : Keep S w w') (hn : ¬ S a) : IRow w' a zs := by
  have l := h.lt
  obtain ⟨cur, e, hc⟩ := h
  exact ⟨cur, by rw [hk.block a l hn]; exact e, hc⟩
theorem IRow.below {w w' : World} {a : Nat} {zs : List Int} (h : IRow w a zs) (hb : Below w.heap.size w w') : IRow w' a zs :=
  h.keep (S := fun _ => False) ⟨hb.os, hb.tape, hb.output, hb.size, fun k hk _ => hb.block k hk⟩ id
namespace Rnor
/-- The reference's chip as a value. -/
def rv (bw kw be ke : Nat) (c : Nr.C) : Value := .agg #[.slice (some ⟨bw, 0, none⟩) c.words.length kw, .slice (some ⟨be, 0, none⟩) c.wear.length ke, .int .i64 c.endure, .int .i64 c.fuse, .int .u32 c.pick, .bool c.off]
/-- Its words and its wear lie in memory. -/
structure RAt (w : World) (bw kw be ke : Nat) (c : Nr.C) : Prop where
  ok : c.ok
  kw : c.words.length ≤ kw
  ke : c.wear.length ≤ ke
  words : Row w bw c.words
  wear : IRow w be c.wear
theorem RAt.below {w w' : World} {bw kw be ke : Nat} {c : Nr.C} (h : RAt w bw kw be ke c) (hb : Below w.heap.size w w') : RAt w' bw kw be ke c := ⟨h.ok, h.kw, h.ke, h.words.below hb, h.wear.below hb⟩
theorem RAt.keep {w w' : World} {S : Nat → Prop} {bw kw be ke : Nat} {c : Nr.C} (h : RAt w bw kw be ke c) (hk : Keep S w w') (h1 : ¬ S bw) (h2 : ¬ S be) : RAt w' bw kw be ke c := ⟨h.ok, h.kw, h.ke, h.words.keep hk h1, h.wear.keep hk h2⟩
theorem underC : Try.prog.underlying 58 = some (.struct (Try.prog.fieldsOf 58)) := by kernel_rfl
theorem sizeC : (Try.prog.info? 58).map (·.size) = some 6 := by kernel_rfl
theorem retC {fn : Func} {p : Tmp} (h : fn.results = #[.cell p 58]) (tmps : Array Value) (w : World) (g : Nat) (cs : Array Value) (hp : tmps.getD p undef = .pointer (some ⟨g, 0, none⟩)) (hg : w.heap[g]? = some (.cells cs 58 (0, 0))) (hs : cs.size = 6) :
    (results fn tmps).run Try.prog w = .ok (.agg cs) w := results_cell_row h tmps w g _ cs _ _ hp hg underC rfl (by rw [sizeC, hs])
theorem retC2 {fn : Func} {p u : Tmp} (h : fn.results = #[.cell p 58, .tmp u]) (tmps : Array Value) (w : World) (g : Nat) (cs : Array Value) (v : Value) (hp : tmps.getD p undef = .pointer (some ⟨g, 0, none⟩)) (hv : tmps.getD u undef = v) (hg : w.heap[g]? = some (.cells cs 58 (0, 0))) (hs : cs.size = 6) :
    (results fn tmps).run Try.prog w = .ok (.tuple #[.agg cs, v]) w := by
  have hp' : tmps[p]?.getD undef = .pointer (some ⟨g, 0, none⟩) := by simpa using hp
  have hv' : tmps[u]?.getD undef = v := by simpa using hv
  have hr := run_loadVar_row (P := Try.prog) w g 58 58 cs (0, 0) _ hg underC rfl (by rw [sizeC, hs])
  simp [results, h, hp', hv', asAddr, hr]
theorem al2 (w : World) (A B : Obj) : Below w.heap.size w ((w.alloc A).alloc B) := ((Below.refl _ _).alloc (Nat.le_refl _) _).alloc (by simp) _
theorem drew_below {B : Nat} {w0 w : World} (h : Below B w0 w) : Below B w0 w.drew := ⟨h.os, h.tape, h.output, h.size, h.block⟩
theorem wrong_c {w : World} {bw kw be ke : Nat} {c : Nr.C} (h : c.ok) (at_ many : Int) :
    Calls Try.prog 79 #[rv bw kw be ke c, .int .i64 at_, .int .i64 many] w fun e w' => e = .returned (.int .i64 (Nr.wrong c at_ many)) ∧ Below w.heap.size w w' := by
  have s1 : (1 : Int) ≤ (c.wear.length : Int) := by have := h.some_; omega
  have s0 : (c.words.length : Int) = 64 * (c.wear.length : Int) := by have := h.size; omega
  have s3 : ((c.words.length : Int) == 0) = false := by rw [beq_eq_false_iff_ne]; omega
  unfold rv
  by_cases ho : c.off = true
  · have E := Lib.hid (show Nr.wrong c at_ many = 4 from if_pos ho)
    go_enter Try.func79, Try.ntmps79
    go_wp2
    go_ret
    exact ⟨by rw [E.out]; rfl, (Below.refl _ _).alloc (Nat.le_refl _) _⟩
  · have ho' : c.off = false := by simpa using ho
    clear ho
    by_cases h1 : at_ < 0
    · have E := Lib.hid (show Nr.wrong c at_ many = 3 by unfold Nr.wrong; rw [if_neg (by simp [ho']), if_pos (.inl h1)])
      go_enter Try.func79, Try.ntmps79
      go_wp2
      go_ret
      exact ⟨by rw [E.out]; rfl, (Below.refl _ _).alloc (Nat.le_refl _) _⟩
    · by_cases h2 : many ≤ at_
      · have E := Lib.hid (show Nr.wrong c at_ many = 3 by unfold Nr.wrong; rw [if_neg (by simp [ho']), if_pos (.inr h2)])
        go_enter Try.func79, Try.ntmps79
        go_wp2
        go_ret
        exact ⟨by rw [E.out]; rfl, (Below.refl _ _).alloc (Nat.le_refl _) _⟩
      · have E := Lib.hid (show Nr.wrong c at_ many = 0 by unfold Nr.wrong; rw [if_neg (by simp [ho']), if_neg (by omega)])
        go_enter Try.func79, Try.ntmps79
        go_wp2
        go_ret
        exact ⟨by rw [E.out]; rfl, (Below.refl _ _).alloc (Nat.le_refl _) _⟩
theorem end_c (w : World) (b : Bool) : Calls Try.prog 83 #[.bool b] w fun e w' => e = .returned (.int .i64 (if b = true then 4 else 0)) ∧ w = w' := by
  cases b
  all_goals
    go_enter Try.func83, Try.ntmps83
    go_wp2
    go_ret
    exact ⟨rfl, rfl⟩
theorem burnt_c {w : World} {bw kw be ke : Nat} {c : Nr.C} (h : c.ok) (ho : c.off = false) :
    Calls Try.prog 80 #[rv bw kw be ke c] w fun e w' => e = .returned (.tuple #[rv bw kw be ke { c with fuse := max (c.fuse - 1) 0, off := decide (c.fuse = 1) }, .bool (decide (c.fuse = 1))]) ∧ Below w.heap.size w w' := by
  have f0 := h.fuse_lo
  have f1 := Lib.hid h.fuse_hi
  unfold rv
  by_cases z : c.fuse = 0
  · go_enter Try.func80, Try.ntmps80
    go_wp2
    refine bodyPost_ret (retC2 rfl _ _ (w.heap.size + 1) _ _ rfl rfl (heap_alloc2_new _ _ _) rfl) rfl ⟨?_, al2 _ _ _⟩
    simp [z]
    rfl
  · go_enter Try.func80, Try.ntmps80
    have hwr : wrap64 (c.fuse - 1) = c.fuse - 1 := IntWalk.wrap64_in _ (by have := f1.out; omega)
    go_wp2
    go_region
    go_wp2
    refine bodyPost_ret (retC2 rfl _ _ (w.heap.size + 1) _ _ rfl rfl (heap_alloc2_new _ _ _) rfl) rfl ⟨?_, drew_below (al2 _ _ _)⟩
    have e1 : max (c.fuse - 1) 0 = c.fuse - 1 := by omega
    have e2 : (c.fuse - 1 == 0) = decide (c.fuse = 1) := by
      by_cases d : c.fuse = 1
      · rw [d]; rfl
      · rw [decide_eq_false d, beq_eq_false_iff_ne]; omega
    rw [e1, ← e2]
    rfl
end Rnor
end Go.Proofs.Ytfghlfolejpjjaa

/- Structs of six cells in boxes. -/
namespace Go.Proofs.Ytfghlfolejpjjaa
open Go.RowKit
set_option linter.unusedVariables false
theorem alloc1_below (w : World) (o1 : Obj) : Below w.heap.size w (w.alloc o1) := (Below.refl _ _).alloc (Nat.le_refl _) _
theorem alloc2_below (w : World) (o1 o2 : Obj) : Below w.heap.size w ((w.alloc o1).alloc o2) := (alloc1_below w o1).alloc (by simp) _
theorem alloc1_then {w w1 : World} {o1 : Obj} (b : Below (w.alloc o1).heap.size (w.alloc o1) w1) : w1.heap[w.heap.size]? = some o1 ∧ Below w.heap.size w w1 :=
  ⟨(b.block _ (by simp)).trans (heap_alloc_new w o1), Below.then (alloc1_below w o1) b⟩
theorem alloc2_then {w w1 : World} {o1 o2 : Obj} (b : Below ((w.alloc o1).alloc o2).heap.size ((w.alloc o1).alloc o2) w1) : w1.heap[w.heap.size]? = some o1 ∧ w1.heap[w.heap.size + 1]? = some o2 ∧ Below w.heap.size w w1 := by
  refine ⟨(b.block _ (by simp; omega)).trans ?_, (b.block _ (by simp)).trans ?_, Below.then (alloc2_below w o1 o2) b⟩
  · have := (alloc1_below (w.alloc o1) o2).block w.heap.size (by simp)
    exact this.trans (heap_alloc_new w o1)
  · have := heap_alloc_new (w.alloc o1) o2
    simpa using this
theorem cells6 {w : World} {b : Nat} {c0 c1 c2 c3 c4 c5 : Value} {t : TypeId} (h : w.heap[b]? = some (.cells #[c0, c1, c2, c3, c4, c5] t (0, 0))) : w.cell? ⟨b, 0, none⟩ = some c0 ∧ w.cell? ⟨b, 1, none⟩ = some c1 ∧ w.cell? ⟨b, 2, none⟩ = some c2 ∧ w.cell? ⟨b, 3, none⟩ = some c3 ∧ w.cell? ⟨b, 4, none⟩ = some c4 ∧ w.cell? ⟨b, 5, none⟩ = some c5 ∧ ∀ i, w.frozen? ⟨b, i, none⟩ = false := by
  simp only [World.cell?, World.frozen?, h]
  simp
theorem put6 {w : World} {r : Nat} {c0 c1 c2 c3 c4 c5 : Value} {t : TypeId} (h : w.heap[r]? = some (.cells #[c0, c1, c2, c3, c4, c5] t (0, 0))) (x0 x1 x2 x3 x4 x5 : Value) : ((((((w.setCell ⟨r, 0, none⟩ x0).setCell ⟨r, 1, none⟩ x1).setCell ⟨r, 2, none⟩ x2).setCell ⟨r, 3, none⟩ x3).setCell ⟨r, 4, none⟩ x4).setCell ⟨r, 5, none⟩ x5).heap[r]? = some (.cells #[x0, x1, x2, x3, x4, x5] t (0, 0)) :=
  heap_set (heap_set (heap_set (heap_set (heap_set (heap_set h 0 x0) 1 x1) 2 x2) 3 x3) 4 x4) 5 x5
theorem set_away {w : World} {r g j : Nat} (n : ¬ g = r) (x : Value) : (w.setCell ⟨r, j, none⟩ x).heap[g]? = w.heap[g]? := by
  simp only [World.setCell, Array.getElem?_modify, if_neg (fun e : r = g => n e.symm)]
theorem put6_away {w : World} {r g : Nat} (n : ¬ g = r) (x0 x1 x2 x3 x4 x5 : Value) : ((((((w.setCell ⟨r, 0, none⟩ x0).setCell ⟨r, 1, none⟩ x1).setCell ⟨r, 2, none⟩ x2).setCell ⟨r, 3, none⟩ x3).setCell ⟨r, 4, none⟩ x4).setCell ⟨r, 5, none⟩ x5).heap[g]? = w.heap[g]? := by
  rw [set_away n, set_away n, set_away n, set_away n, set_away n, set_away n]
theorem put6_below {w0 w : World} {r : Nat} (h : Below w0.heap.size w0 w) (hr : w0.heap.size ≤ r) (x0 x1 x2 x3 x4 x5 : Value) : Below w0.heap.size w0 ((((((w.setCell ⟨r, 0, none⟩ x0).setCell ⟨r, 1, none⟩ x1).setCell ⟨r, 2, none⟩ x2).setCell ⟨r, 3, none⟩ x3).setCell ⟨r, 4, none⟩ x4).setCell ⟨r, 5, none⟩ x5) := (((((h.setCell hr x0).setCell hr x1).setCell hr x2).setCell hr x3).setCell hr x4).setCell hr x5
end Go.Proofs.Ytfghlfolejpjjaa

/- The reference's chip: a word is changed. -/
namespace Go.Proofs.Ytfghlfolejpjjaa
open Go.RowKit
set_option linter.unusedVariables false
attribute [local go_sem] max2_int min2_int max_two min_two
namespace Rnor
theorem change_c {w : World} {bw kw be ke m : Nat} {c : Nr.C} (h : RAt w bw kw be ke c) (hm : m < c.words.length) (v p : Int) (burns : Bool) (hv : 0 ≤ v ∧ v < 4294967296) (hp : 0 ≤ p ∧ p < 4294967296) {u : Int} (hu : Hid (u = if burns = true then Bt.part (c.words.getD m 0) v p else v)) :
    Calls Try.prog 81 #[rv bw kw be ke c, .int .i64 m, .int .u32 v, .bool burns, .int .u32 p] w fun e w' => ∃ a kap, e = .returned (rv a kap be ke { c with words := c.words.set m u }) ∧ Row w' a (c.words.set m u) ∧ c.words.length ≤ kap ∧ w.heap.size ≤ a ∧ Below w.heap.size w w' := by
  have s0 : c.words.length ≤ 4096 := by have := h.ok.size; have := h.ok.most; omega
  unfold rv
  have hw := Lib.hid h.words
  have hk := h.kw
  cases burns
  · obtain rfl : u = v := by simpa using hu.out
    clear hu
    go_enter Try.func81, Try.ntmps81
    go_wp2_with (go_at_call 91; refine (put_c hm hk s0 (hw.out.below (alloc2_below w _ _))).mono ?_; rintro e w1 ⟨a, kap, rfl, p1, p2, p3, p4⟩; obtain ⟨e0, e1, B⟩ := alloc2_then p4; clear p4; have E1 := Lib.hid e1; have E0 := Lib.hid e0; obtain ⟨x0, x1, x2, x3, x4, x5, xf⟩ := cells6 e0; obtain ⟨y0, y1, y2, y3, y4, y5, yf⟩ := cells6 e1; clear e0 e1)
    have n1 : ¬ w.heap.size + 1 = w.heap.size := by omega
    have q2 : w.heap.size + 1 + 1 ≤ a := by simpa using p2
    refine bodyPost_ret (retC rfl _ _ (w.heap.size + 1) _ rfl (put6 ((set_away n1 _).trans E1.out) _ _ _ _ _ _) rfl) rfl ⟨a, kap, ?_, ?_, p1, by omega, put6_below (B.setCell (Nat.le_refl _) _) (by omega) _ _ _ _ _ _⟩
    · rw [List.length_set]
    · obtain ⟨cur, ea, hc⟩ := p3
      exact ⟨cur, ((put6_away (by omega) _ _ _ _ _ _).trans (set_away (by omega) _)).trans ea, hc⟩
  · have hu' : Hid (u = Bt.part (c.words.getD m 0) v p) := Lib.hid (by simpa using hu.out)
    clear hu
    go_enter Try.func81, Try.ntmps81
    have hcw : ∀ o1 o2, ((w.alloc o1).alloc o2).cell? ⟨bw, m, none⟩ = some (.int .u32 (c.words.getD m 0)) := fun o1 o2 => Lib.cell?_alloc_some _ (Lib.cell?_alloc_some _ (h.words.cell hm))
    have r1 := h.ok.words_lo m
    have r2 := h.ok.words_hi m
    generalize c.words.getD m 0 = x at hcw r1 r2 hu'
    go_wp2_with (first | (go_at_call 90; refine (Ref1.part_c _ _ _ _ r1 r2 hv.1 hv.2 hp.1 hp.2).mono ?_; rintro e w' ⟨rfl, rfl⟩; rw [← hu'.out]) | (go_at_call 91; refine (put_c hm hk s0 (hw.out.below (alloc2_below w _ _))).mono ?_; rintro e w1 ⟨a, kap, rfl, p1, p2, p3, p4⟩; obtain ⟨e0, e1, B⟩ := alloc2_then p4; clear p4; have E1 := Lib.hid e1; have E0 := Lib.hid e0; obtain ⟨x0, x1, x2, x3, x4, x5, xf⟩ := cells6 e0; obtain ⟨y0, y1, y2, y3, y4, y5, yf⟩ := cells6 e1; clear e0 e1))
    have n1 : ¬ w.heap.size + 1 = w.heap.size := by omega
    have q2 : w.heap.size + 1 + 1 ≤ a := by simpa using p2
    refine bodyPost_ret (retC rfl _ _ (w.heap.size + 1) _ rfl (put6 ((set_away n1 _).trans E1.out) _ _ _ _ _ _) rfl) rfl ⟨a, kap, ?_, ?_, p1, by omega, put6_below (B.setCell (Nat.le_refl _) _) (by omega) _ _ _ _ _ _⟩
    · rw [List.length_set]
    · obtain ⟨cur, ea, hc⟩ := p3
      exact ⟨cur, ((put6_away (by omega) _ _ _ _ _ _).trans (set_away (by omega) _)).trans ea, hc⟩
end Rnor
end Go.Proofs.Ytfghlfolejpjjaa

/- The reference's chip: Program. -/
namespace Go.Proofs.Ytfghlfolejpjjaa
open Go.RowKit
set_option linter.unusedVariables false
attribute [local go_sem] max2_int min2_int max_two min_two
namespace Rnor
theorem wrong_e {w : World} {bw kw be ke : Nat} {c : Nr.C} (h : c.ok) {at_ many n : Int} (q : Hid (Nr.wrong c at_ many = n)) :
    Calls Try.prog 79 #[rv bw kw be ke c, .int .i64 at_, .int .i64 many] w fun e w' => e = .returned (.int .i64 n) ∧ Below w.heap.size w w' := by
  rw [← q.out]; exact wrong_c h at_ many
theorem burnt_e {w : World} {bw kw be ke : Nat} {c : Nr.C} (h : c.ok) (ho : c.off = false) {f : Int} {b : Bool} (q1 : Hid (max (c.fuse - 1) 0 = f)) (q2 : Hid (decide (c.fuse = 1) = b)) :
    Calls Try.prog 80 #[rv bw kw be ke c] w fun e w' => e = .returned (.tuple #[rv bw kw be ke { c with fuse := f, off := b }, .bool b]) ∧ Below w.heap.size w w' := by
  rw [← q1.out, ← q2.out]; exact burnt_c h ho
theorem program_eq {c : Nr.C} {m : Nat} {v x f u : Int} {b : Bool} (hm : m < c.words.length) (hx : c.words.getD m 0 = x) (q1 : Hid (max (c.fuse - 1) 0 = f)) (q2 : Hid (decide (c.fuse = 1) = b)) (hu : Hid (u = if b = true then Bt.part x (bits .and .u32 x v) (Bt.turn c.pick 0) else bits .and .u32 x v)) :
    Nr.program c m v = { c with words := c.words.set m u, fuse := f, off := b } := by
  have hs := Nr.changed_succ (fun w => bits .and .u32 w v) b c.pick m 0 c.words hm
  rw [Nat.add_zero, Nr.changed_zero, hx] at hs
  rw [hu.out, ← q1.out]
  simp only [Nr.program, Nr.change, q2.out, Int.toNat_natCast]
  rw [← hs]
  rfl
theorem burnt_ok {c : Nr.C} {f : Int} {b : Bool} (h : c.ok) (q1 : Hid (max (c.fuse - 1) 0 = f)) : ({ c with fuse := f, off := b } : Nr.C).ok := by
  have f1 := h.fuse_lo
  have f2 := h.fuse_hi
  have := q1.out
  exact ⟨h.size, h.some_, h.most, h.words_lo, h.words_hi, h.wear_lo, h.wear_hi, h.endure_lo, h.endure_hi, by simp only []; omega, by simp only []; omega, h.pick_lo, h.pick_hi⟩
theorem rv_eq (bw kw be ke : Nat) (c : Nr.C) : rv bw kw be ke c = .agg #[.slice (some ⟨bw, 0, none⟩) c.words.length kw, .slice (some ⟨be, 0, none⟩) c.wear.length ke, .int .i64 c.endure, .int .i64 c.fuse, .int .u32 c.pick, .bool c.off] := rfl
set_option maxHeartbeats 1000000 in
set_option maxRecDepth 100000 in
theorem program_bad {w : World} {bw kw be ke : Nat} {c : Nr.C} (h : RAt w bw kw be ke c) (at_ v : Int) {n : Int} (q : Hid (Nr.wrong c at_ (c.words.length : Int) = n)) (hn : (n == 0) = false) :
    Calls Try.prog 73 #[rv bw kw be ke c, .int .i64 at_, .int .u32 v] w fun e w' => e = .returned (.tuple #[rv bw kw be ke c, .int .i64 n]) ∧ Below w.heap.size w w' := by
  have hW := fun W : World => wrong_e (w := W) (bw := bw) (kw := kw) (be := be) (ke := ke) h.ok q
  have hn2 : (n != 0) = true := by simpa using hn
  unfold rv at *
  go_enter Try.func73, Try.ntmps73
  go_wp2_with (go_at_call 79; refine (hW _).mono ?_; rintro e w1 ⟨rfl, b1⟩; clear hW; obtain ⟨e0, e1, B⟩ := alloc2_then b1; clear b1; have E1 := Lib.hid e1; obtain ⟨x0, x1, x2, x3, x4, x5, xf⟩ := cells6 e0; obtain ⟨y0, y1, y2, y3, y4, y5, yf⟩ := cells6 e1; clear e0 e1)
  refine bodyPost_ret (retC2 rfl _ _ (w.heap.size + 1) _ _ rfl rfl (put6 E1.out _ _ _ _ _ _) rfl) rfl ⟨rfl, put6_below B (by omega) _ _ _ _ _ _⟩
set_option maxHeartbeats 400000 in
set_option maxRecDepth 100000 in
theorem program_good {w : World} {bw kw be ke m : Nat} {c : Nr.C} (h : RAt w bw kw be ke c) (hm : m < c.words.length) {v : Int} (hv : 0 ≤ v ∧ v < 4294967296) (q : Hid (Nr.wrong c (m : Int) (c.words.length : Int) = 0)) (ho : Hid (c.off = false)) {c' : Nr.C} {n : Int} (q3 : Hid (Nr.program c m v = c')) (q4 : Hid (Nr.ended c = n)) :
    Calls Try.prog 73 #[rv bw kw be ke c, .int .i64 m, .int .u32 v] w fun e w' => ∃ a kap, e = .returned (.tuple #[rv a kap be ke c', .int .i64 n]) ∧ RAt w' a kap be ke c' ∧ w.heap.size ≤ a ∧ Below w.heap.size w w' := by
  have hW := fun W : World => wrong_e (w := W) (bw := bw) (kw := kw) (be := be) (ke := ke) h.ok q
  obtain ⟨f, q1⟩ : ∃ f, Hid (max (c.fuse - 1) 0 = f) := ⟨_, Lib.hid rfl⟩
  obtain ⟨b, q2⟩ : ∃ b, Hid (decide (c.fuse = 1) = b) := ⟨_, Lib.hid rfl⟩
  have hB := fun W : World => burnt_e (w := W) (bw := bw) (kw := kw) (be := be) (ke := ke) h.ok ho.out q1 q2
  unfold rv at *
  go_enter Try.func73, Try.ntmps73
  go_wp2_with (first | (go_at_call 79; refine (hW _).mono ?_; rintro e w1 ⟨rfl, b1⟩; clear hW; obtain ⟨e0, e1, B⟩ := alloc2_then b1; clear b1; have E1 := Lib.hid e1; have E0 := Lib.hid e0; obtain ⟨x0, x1, x2, x3, x4, x5, xf⟩ := cells6 e0; clear e0 e1) | (go_at_call 80; refine (hB _).mono ?_; rintro e w2 ⟨rfl, b2⟩; clear hB; replace E1 := Lib.hid ((b2.block _ (Array.getElem?_eq_some_iff.1 E1.out).1).trans E1.out); replace E0 := Lib.hid ((b2.block _ (Array.getElem?_eq_some_iff.1 E0.out).1).trans E0.out); replace B := Below.then B b2; clear b2 x0 x1 x2 x3 x4 x5 xf; obtain ⟨x0, x1, x2, x3, x4, x5, xf⟩ := cells6 E0.out))
  have hcw : w2.cell? ⟨bw, m, none⟩ = some (.int .u32 (c.words.getD m 0)) := Sl.below_cell B (h.words.cell hm)
  have hbl := h.words.lt
  have r1 := h.ok.words_lo m
  have r2 := h.ok.words_hi m
  have hs2 := B.size
  have lt1 := (Array.getElem?_eq_some_iff.1 E1.out).1
  obtain ⟨W, hWe⟩ : ∃ W, W = ((((((w2.setCell ⟨w.heap.size, 0, none⟩ (.slice (some ⟨bw, 0, none⟩) c.words.length kw)).setCell ⟨w.heap.size, 1, none⟩ (.slice (some ⟨be, 0, none⟩) c.wear.length ke)).setCell ⟨w.heap.size, 2, none⟩ (.int .i64 c.endure)).setCell ⟨w.heap.size, 3, none⟩ (.int .i64 f)).setCell ⟨w.heap.size, 4, none⟩ (.int .u32 c.pick)).setCell ⟨w.heap.size, 5, none⟩ (.bool b)) := ⟨_, rfl⟩
  have F0 := put6 E0.out (.slice (some ⟨bw, 0, none⟩) c.words.length kw) (.slice (some ⟨be, 0, none⟩) c.wear.length ke) (.int .i64 c.endure) (.int .i64 f) (.int .u32 c.pick) (.bool b)
  have F1 := (put6_away (r := w.heap.size) (g := w.heap.size + 1) (w := w2) (by omega) (.slice (some ⟨bw, 0, none⟩) c.words.length kw) (.slice (some ⟨be, 0, none⟩) c.wear.length ke) (.int .i64 c.endure) (.int .i64 f) (.int .u32 c.pick) (.bool b)).trans E1.out
  have FB := put6_below B (Nat.le_refl _) (.slice (some ⟨bw, 0, none⟩) c.words.length kw) (.slice (some ⟨be, 0, none⟩) c.wear.length ke) (.int .i64 c.endure) (.int .i64 f) (.int .u32 c.pick) (.bool b)
  rw [← hWe] at F0 F1 FB ⊢
  clear hWe x0 x1 x2 x3 x4 x5 xf E0 E1 hcw B hs2 lt1
  have hcw : W.cell? ⟨bw, m, none⟩ = some (.int .u32 (c.words.getD m 0)) := Sl.below_cell FB (h.words.cell hm)
  have G0 := Lib.hid F0
  have G1 := Lib.hid F1
  obtain ⟨x0, x1, x2, x3, x4, x5, xf⟩ := cells6 F0
  clear F0 F1
  have HB := Lib.hid FB
  clear FB
  generalize hx : c.words.getD m 0 = x at *
  go_loop [10, 11] (fun n i => ∃ k : Nat, k ≤ 32 ∧ i = .int .i64 k ∧ n = .int .u32 (Nr.andN k x v)) (fun _ i => 32 - (intOf i).toNat)
  case atStart => exact ⟨0, Nat.zero_le _, rfl, by rw [Nr.andN_zero]⟩
  case round =>
    obtain ⟨k, hk, rfl, rfl⟩ := hrel
    by_cases h2 : k < 32
    · have h3 : (k : Int) < 32 := by omega
      have hs := Lib.hid (Nr.andN_succ x v h2)
      have hr := Nr.mul_rng x v k
      have hA := Nr.andN_rng k x v
      have hwp : IntKind.u32.wrap (Bt.field x k 1 * Bt.field v k 1) = Bt.field x k 1 * Bt.field v k 1 := by rw [IntKind.wrap_u32]; omega
      go_wp2_with (first | (go_at_call_of 85 (Value.int IntKind.u32 x); refine (Ref1.field_c _ _ _ _ r1 r2 (Lib.hid (by omega))).mono ?_; rintro e w' ⟨rfl, rfl⟩) | (go_at_call 85; refine (Ref1.field_c _ _ _ _ hv.1 hv.2 (Lib.hid (by omega))).mono ?_; rintro e w' ⟨rfl, rfl⟩) | (go_at_call 84; refine (Ref1.put_c _ _ _ _ _ hA.1 hA.2 hr.1 (by omega) (Lib.hid (by omega))).mono ?_; rintro e w' ⟨rfl, rfl⟩))
      go_round
      case rel => exact ⟨k + 1, by omega, by go_num, by rw [hs.out]⟩
      case measure => simp [intOf]; omega
    · obtain rfl : k = 32 := by omega
      have hen := Nr.andN_end r1 r2 hv.1 hv.2
      have hR := Nr.andN_rng 32 x v
      generalize Nr.andN 32 x v = A at hen hR ⊢
      obtain ⟨u, hu⟩ : ∃ u, Hid (u = if b = true then Bt.part x A c.pick else A) := ⟨_, Lib.hid rfl⟩
      have hRA : RAt W bw kw be ke { c with fuse := f, off := b } := RAt.below (w := w) ⟨burnt_ok h.ok q1, h.kw, h.ke, h.words, h.wear⟩ HB.out
      have hch := change_c (u := u) hRA hm A c.pick b hR ⟨h.ok.pick_lo, h.ok.pick_hi⟩ (Lib.hid (by show u = if b = true then Bt.part (c.words.getD m 0) A c.pick else A; rw [hx]; exact hu.out))
      have HC : Hid (c' = { c with words := c.words.set m u, fuse := f, off := b }) := Lib.hid (by
        rw [← q3.out]
        refine program_eq hm hx q1 q2 (Lib.hid ?_)
        rw [Nr.turn_0 h.ok.pick_lo h.ok.pick_hi, ← hen]
        exact hu.out)
      have HN : Hid ((if b = true then (4 : Int) else 0) = n) := Lib.hid (by rw [← q4.out, ← q2.out]; simp [Nr.ended])
      have HO : Hid c'.ok := Lib.hid (by rw [← q3.out]; exact Nr.program_ok h.ok _ hv.1 hv.2)
      have HH := Lib.hid hRA
      clear hRA hen hx
      unfold rv at hch
      go_wp2_with (first | (go_at_call 81; refine hch.mono ?_; rintro e w3 ⟨a, kap, rfl, p1, p2, p3, p4⟩; clear hch; have E3 := Lib.hid ((p4.block _ (Array.getElem?_eq_some_iff.1 G1.out).1).trans G1.out); obtain ⟨y0, y1, y2, y3, y4, y5, yf⟩ := cells6 E3.out) | (go_at_call 83; refine (end_c _ b).mono ?_; rintro e w4 ⟨rfl, rfl⟩; rw [HN.out]))
      have LW := (Array.getElem?_eq_some_iff.1 G1.out).1
      have L3 := p4.size
      have BB := Below.then HB.out p4
      have hc' := HC.out
      have ho' := HO.out
      clear HC HO q3
      subst hc'
      refine bodyPost_ret (retC2 rfl _ _ (w.heap.size + 1) _ _ rfl rfl (put6 E3.out _ _ _ _ _ _) rfl) rfl ⟨a, kap, ?_, ⟨ho', ?_, h.ke, ?_, ?_⟩, by omega, ?_⟩
      · simp only [List.length_set]
        rfl
      · simpa using p2
      · obtain ⟨cur, ea, hc⟩ := p1
        exact ⟨cur, (put6_away (by omega) _ _ _ _ _ _).trans ea, hc⟩
      · exact h.wear.below (put6_below BB (by omega) _ _ _ _ _ _)
      · exact put6_below BB (by omega) _ _ _ _ _ _
end Rnor
end Go.Proofs.Ytfghlfolejpjjaa

/- The reference's chip: Fuse, On. -/
namespace Go.Proofs.Ytfghlfolejpjjaa
open Go.RowKit
set_option linter.unusedVariables false
attribute [local go_sem] max2_int min2_int max_two min_two
namespace Rnor
theorem on_c {w : World} {bw kw be ke : Nat} {c : Nr.C} :
    Calls Try.prog 32 #[rv bw kw be ke c] w fun e w' => e = .returned (rv bw kw be ke (Nr.on c)) ∧ Below w.heap.size w w' := by
  unfold rv
  simp only [Nr.on]
  go_enter Try.func32, Try.ntmps32
  go_wp2
  refine bodyPost_ret (retC rfl _ _ (w.heap.size + 1) _ rfl (heap_alloc2_new _ _ _) rfl) rfl ⟨rfl, al2 _ _ _⟩
theorem fuse_c {w : World} {bw kw be ke : Nat} {c c' : Nr.C} (h : c.ok) {n p : Int} (q : Hid (Nr.fuse c n p = c')) :
    Calls Try.prog 29 #[rv bw kw be ke c, .int .i64 n, .int .u32 p] w fun e w' => e = .returned (rv bw kw be ke c') ∧ Below w.heap.size w w' := by
  have s1 : (0 : Int) < (c.words.length : Int) := by have := h.some_; have := h.size; omega
  obtain ⟨f, q1⟩ : ∃ f, max n 0 = f := ⟨_, rfl⟩
  have hc' : c' = { c with fuse := f, pick := p } := by rw [← q.out, ← q1]; rfl
  subst hc'
  unfold rv
  simp only []
  by_cases hn : n < 0
  · obtain rfl : f = 0 := by omega
    clear q1
    go_enter Try.func29, Try.ntmps29
    go_wp2
    refine bodyPost_ret (retC rfl _ _ (w.heap.size + 1) _ rfl (heap_alloc2_new _ _ _) rfl) rfl ⟨rfl, al2 _ _ _⟩
  · obtain rfl : f = n := by omega
    clear q1
    go_enter Try.func29, Try.ntmps29
    go_wp2
    refine bodyPost_ret (retC rfl _ _ (w.heap.size + 1) _ rfl (heap_alloc2_new _ _ _) rfl) rfl ⟨rfl, al2 _ _ _⟩
end Rnor
end Go.Proofs.Ytfghlfolejpjjaa

/- The reference's chip: Read. -/
namespace Go.Proofs.Ytfghlfolejpjjaa
open Go.RowKit
set_option linter.unusedVariables false
attribute [local go_sem] max2_int min2_int max_two min_two
namespace Rnor
end Rnor
end Go.Proofs.Ytfghlfolejpjjaa

/- The reference's chip: Erase that changes nothing. -/
namespace Go.Proofs.Ytfghlfolejpjjaa
open Go.RowKit
set_option linter.unusedVariables false
attribute [local go_sem] max2_int min2_int max_two min_two
namespace Rnor
theorem drewN_below {B : Nat} {w0 w : World} (h : Below B w0 w) (n : Nat) : Below B w0 (w.drewN n) := ⟨h.os, h.tape, h.output, h.size, h.block⟩
theorem drewN_heap {w : World} {n r : Nat} {o : Option Obj} (h : w.heap[r]? = o) : (w.drewN n).heap[r]? = o := h
set_option maxHeartbeats 1000000 in
set_option maxRecDepth 100000 in
theorem erase_bad {w : World} {bw kw be ke : Nat} {c : Nr.C} (h : RAt w bw kw be ke c) (b : Int) {n : Int} (q : Hid (Nr.wrong c b (c.wear.length : Int) = n)) (hn : (n == 0) = false) :
    Calls Try.prog 72 #[rv bw kw be ke c, .int .i64 b] w fun e w' => e = .returned (.tuple #[rv bw kw be ke c, .int .i64 n]) ∧ Below w.heap.size w w' := by
  have hW := fun W : World => wrong_e (w := W) (bw := bw) (kw := kw) (be := be) (ke := ke) h.ok q
  have hn2 : (n != 0) = true := by simpa using hn
  unfold rv at *
  go_enter Try.func72, Try.ntmps72
  go_wp2_with (go_at_call 79; refine (hW _).mono ?_; rintro e w1 ⟨rfl, b1⟩; clear hW; obtain ⟨e0, e1, B⟩ := alloc2_then b1; clear b1; have E1 := Lib.hid e1; obtain ⟨x0, x1, x2, x3, x4, x5, xf⟩ := cells6 e0; obtain ⟨y0, y1, y2, y3, y4, y5, yf⟩ := cells6 e1; clear e0 e1)
  refine bodyPost_ret (retC2 rfl _ _ (w.heap.size + 1) _ _ rfl rfl (put6 E1.out _ _ _ _ _ _) rfl) rfl ⟨rfl, put6_below B (by omega) _ _ _ _ _ _⟩
set_option maxHeartbeats 1000000 in
set_option maxRecDepth 100000 in
theorem erase_worn {w : World} {bw kw be ke m : Nat} {c : Nr.C} (h : RAt w bw kw be ke c) (hm : m < c.wear.length) (q : Hid (Nr.wrong c (m : Int) (c.wear.length : Int) = 0)) (hx : c.endure ≤ c.wear.getD m 0) :
    Calls Try.prog 72 #[rv bw kw be ke c, .int .i64 m] w fun e w' => e = .returned (.tuple #[rv bw kw be ke c, .int .i64 5]) ∧ Below w.heap.size w w' := by
  have hW := fun W : World => wrong_e (w := W) (bw := bw) (kw := kw) (be := be) (ke := ke) h.ok q
  have CW := Lib.hid (h.wear.cell hm)
  have hm1 : (m : Int) < (c.wear.length : Int) := by omega
  generalize c.wear.getD m 0 = x at CW hx
  unfold rv at *
  go_enter Try.func72, Try.ntmps72
  go_wp2_with (go_at_call 79; refine (hW _).mono ?_; rintro e w1 ⟨rfl, b1⟩; clear hW; obtain ⟨e0, e1, B⟩ := alloc2_then b1; clear b1; have E1 := Lib.hid e1; obtain ⟨x0, x1, x2, x3, x4, x5, xf⟩ := cells6 e0; obtain ⟨y0, y1, y2, y3, y4, y5, yf⟩ := cells6 e1; clear e0 e1; have cw := Sl.below_cell B CW.out)
  go_quiet (fail)
  go_wp2
  refine bodyPost_ret (retC2 rfl _ _ (w.heap.size + 1) _ _ rfl rfl (put6 (w := w1.drewN nq) (drewN_heap E1.out) _ _ _ _ _ _) rfl) rfl ⟨rfl, put6_below (drewN_below B nq) (by omega) _ _ _ _ _ _⟩
end Rnor
end Go.Proofs.Ytfghlfolejpjjaa
