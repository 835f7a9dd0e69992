/- Reads of none or more words; words that are appended. -/
import Derived.Test.YtfghlfolejpjjaaLive5
import Derived.Test.YtfghlfolejpjjaaDrLaws
import Derived.Test.YtfghlfolejpjjaaArgs
import Derived.Laws.AppendOwnNone
namespace Go.Proofs.Ytfghlfolejpjjaa
open Go.RowKit
set_option linter.unusedVariables false
attribute [local go_sem] max2_int min2_int max_two min_two
/-- Words of a slice: none, or so many of a block. -/
def Lies (w : World) (a : Option Addr) (r n cap : Nat) (zs : List Int) : Prop := ((a = none ∧ n = 0 ∧ cap = 0) ∨ a = some ⟨r, 0, none⟩) ∧ zs.length = n ∧ ∀ i, i < n → w.cell? ⟨r, i, none⟩ = some (.int .u32 (zs.getD i 0))
theorem Lies.at_ {w : World} {a : Option Addr} {r n cap : Nat} {zs : List Int} (h : Lies w a r n cap zs) : ∀ i, i < zs.length → a = some ⟨r, 0, none⟩ := fun i hi => by
  have := h.2.1
  rcases h.1 with ⟨_, e, _⟩ | e
  · omega
  · exact e
theorem Lies.same {w w' : World} {a : Option Addr} {r n cap : Nat} {zs : List Int} (h : Lies w a r n cap zs) (e : 0 < n → w'.heap[r]? = w.heap[r]?) : Lies w' a r n cap zs :=
  ⟨h.1, h.2.1, fun i hi => by rw [World.cell?_of_block (a := ⟨r, i, none⟩) (e (by omega))]; exact h.2.2 i hi⟩
theorem Lies.of_owns {w : World} {B n : Nat} {v : Value} {zs : List Int} (h : w.ownsRow B 34 1 v n (zs.map (Value.int .u32))) :
    ∃ a g kap, v = .slice a n kap ∧ Lies w a g n kap zs := by
  obtain ⟨h1, ⟨rfl, rfl⟩ | ⟨g, cap, cur, rfl, hb, hg, hc, hm, hs, ht⟩⟩ := h
  · exact ⟨none, 0, 0, rfl, .inl ⟨rfl, rfl, rfl⟩, by simpa using h1, fun i hi => absurd hi (by omega)⟩
  · have hl : zs.length = n := by simpa using h1
    refine ⟨_, g, cap, rfl, .inr rfl, hl, fun i hi => ?_⟩
    have e : (cur.toList.take (n * 1))[i]? = (zs.map (Value.int .u32))[i]? := by rw [ht]
    rw [List.getElem?_take, if_pos (by omega), List.getElem?_map, List.getElem?_eq_getElem (l := zs) (by omega)] at e
    simp only [World.cell?, hg]
    rw [← Array.getElem?_toList, e]
    simp [List.getD, show i < zs.length by omega]
theorem grownBy_refl (w : World) (o : Option Nat) : w.grownBy w o := ⟨rfl, rfl, rfl, Nat.le_refl _, fun _ _ _ => rfl⟩
theorem append_u {w : World} {ops : Array Oper} {rest : List Oper} {o : Oper} {a : Act} {Q : Exit → Act → World → Prop} (hgd : Region.wanted o (yielded ops a.tmps) = true) (s x : Operand)
    (ho : o.op = .call { callee := .builtin .append, args := #[s, x], argTypes := #[22, 22] })
    (base : Nat) (v : Value) (n : Nat) (xs : List Int) (hs : a.eval s = v) (hown : w.ownsRow base 34 1 v n (xs.map (Value.int .u32)))
    {ad : Option Addr} {r m c : Nat} {zs : List Int} (hx : a.eval x = .slice ad m c) (hl : Lies w ad r m c zs) (hbig : n + m ≤ 100000) (hbase : base ≤ w.heap.size)
    (h : ∀ v' w', w'.ownsRow base 34 1 v' (n + m) ((xs ++ zs).map (Value.int .u32)) → w.grownBy w' v.ownBlock → wpList Try.prog ops Q rest (a.put o.dst v') w') : wpList Try.prog ops Q (o :: rest) a w := by
  obtain ⟨i0, hi, hz0, hz1, hz2⟩ := info_parts Sl.info32
  obtain ⟨hl1, hl2, hl3⟩ := hl
  refine wpList_step fun K hK => ?_
  rw [if_pos hgd]
  rcases hl1 with ⟨rfl, rfl, rfl⟩ | rfl
  · have hz : zs = [] := List.length_eq_zero_iff.1 hl2
    subst hz
    have hrun := run_append_owned_none (P := Try.prog) (w := w) base 22 o.type 34 i0 1 Sl.under32 hi v n _ hown
    unfold Oper.wp
    simp only [execOp, ho, resolve, invoke, builtin, Sem.run_bind, Sem.run_pure, Result.andThen_ok, List.map_toArray, List.map_cons, List.map_nil, hs, hx, hrun]
    exact hK _ _ (h v w (by simpa using hown) (grownBy_refl _ _))
  · refine wp_append_own w s x _ ho base 34 i0 (.int .u32 0) 1 4 Sl.under32 hi hz0 hz1 hz2 rfl (by decide) v n _ hs hown ⟨r, 0, none⟩ m c (zs.map (Value.int .u32)) hx (by simp [hl2]) ?_ ?_ (by unfold maxLen; omega) (by omega) hbase ?_
    · intro j u hj
      have hjn : j < zs.length := by
        have := (List.getElem?_eq_some_iff.1 hj).1
        simpa using this
      rw [Addr.add_lit, Nat.zero_add, hl3 j (by omega)]
      have e : (zs.map (Value.int .u32))[j]? = some (Value.int .u32 (zs.getD j 0)) := by simp [List.getD, hjn]
      rw [e] at hj
      exact hj
    · intro u hu; obtain ⟨x, _, rfl⟩ := List.mem_map.1 hu; rfl
    · intro v' w' h1 h2 _
      exact hK _ _ (h v' w' (by simpa using h1) h2)
theorem words_u {w : World} {a b : Option Addr} {n1 n2 k1 k2 : Nat} {zs : List Int} {b1 o1 b2 o2 : Nat} (e1 : n1 = zs.length) (e2 : n2 = zs.length) (h1 : ∀ i, i < zs.length → a = some ⟨b1, o1, none⟩) (h2 : ∀ i, i < zs.length → b = some ⟨b2, o2, none⟩) (hbig : zs.length < 1000000)
    (c1 : ∀ i, i < zs.length → w.cell? ⟨b1, o1 + i, none⟩ = some (.int .u32 (zs.getD i 0))) (c2 : ∀ i, i < zs.length → w.cell? ⟨b2, o2 + i, none⟩ = some (.int .u32 (zs.getD i 0))) :
    Calls Try.prog 17 #[.slice a n1 k1, .slice b n2 k2] w fun e w' => e = .returned (.bool true) ∧ Below w.heap.size w w' := by
  subst e1 e2
  exact Ref1.words_same h1 h2 hbig c1 c2
namespace Drv
section
variable {P : Nat → Prop} {w0 w w' : World} {dd gf g bw be : Nat} {blocks ticks : Int} {s s' : Cf.Fl}
theorem read_u (h : DrvR P w0 w dd gf g bw be blocks ticks s) (hc : Cf.Calm s) {at_ n : Nat} (n2 : n ≤ 64) (hin : at_ + n ≤ s.c.words.length) (hoff : s.c.off = false) {zs : List Int} (hl : zs.length = n) (hzs : Hid (∀ i, i < n → zs.getD i 0 = s.c.words.getD (at_ + i) 0)) :
    Calls Try.prog 16 #[.pointer (some ⟨dd, 0, none⟩), .int .i64 at_, .int .i64 n] w fun x w' => ∃ a r s2, x = .returned (.tuple #[.slice a n n, .int .i64 0]) ∧ Lies w' a r n n zs ∧ DrvR (fun k => P k ∨ (0 < n ∧ k = r)) w0 w' dd gf g bw be blocks ticks s2 ∧ s2.c = s.c ∧ Cf.Calm s2 ∧ ∀ k, P k → w'.heap[k]? = w.heap[k]? := by
  by_cases hn : n = 0
  · subst hn
    obtain ⟨S, h, hp⟩ := h
    refine (read_0 h at_).mono ?_
    rintro x w' ⟨rfl, rfl⟩
    exact ⟨none, 0, s, rfl, ⟨.inl ⟨rfl, rfl, rfl⟩, hl, fun i hi => absurd hi (by omega)⟩, ⟨S, h, fun k hk => hk.elim (hp k) (fun e => absurd e.1 (by decide))⟩, rfl, hc, fun _ _ => rfl⟩
  · refine (read_r h hc (by omega) n2 hin hoff hl hzs).mono ?_
    rintro x w' ⟨r, rfl, h1, h2, ⟨S, h3, hp⟩, h4⟩
    exact ⟨_, r, _, rfl, ⟨.inr rfl, hl, fun i hi => h2.cell (by omega)⟩, ⟨S, h3, fun k hk => hp k (hk.elim .inl (fun e => .inr e.2))⟩, rfl, ⟨hc.job, hc.wait, hc.errs⟩, h4⟩
theorem _root_.Go.Proofs.Ytfghlfolejpjjaa.DrvL.chip {c' : Nr.C} (h : DrvL w0 w dd gf g bw be blocks ticks s) (hO : Own w0 w' g bw be c') (hK : Keep (Nor.Three g bw be) w w') (hj : s.job = none) : DrvL w0 w' dd gf g bw be blocks ticks { s with c := c' } := by
  obtain ⟨S, h⟩ := h
  exact ⟨S, h.fl.chip hO hK (fun j e => by rw [hj] at e; cases e), h.ld, h.nd, (hK.block dd h.lt (fun e => h.nd (h.fl.three e))).trans h.head⟩
theorem read_off (h : DrvL w0 w dd gf g bw be blocks ticks s) {at_ : Int} {n : Nat} (n1 : 1 ≤ n) (n2 : n ≤ 64) {e : Int} (hw : Hid (Cf.wrong s at_ = e)) (he : ¬ e = 0) :
    Calls Try.prog 16 #[.pointer (some ⟨dd, 0, none⟩), .int .i64 at_, .int .i64 n] w fun x w' => x = .returned (.tuple #[.slice none 0 0, .int .i64 e]) ∧ DrvL w0 w' dd gf g bw be blocks ticks s := by
  obtain ⟨S, h⟩ := h
  refine (read_bad h n1 n2 hw he).mono ?_
  rintro x w' ⟨rfl, p, _⟩
  exact ⟨rfl, _, p⟩
end
end Drv
end Go.Proofs.Ytfghlfolejpjjaa
