/- Package model and its reference: each call's contract, its answer given by an equation. -/
import Derived.Test.YtlfabajceflpdaaLive9
import Derived.Test.YtlfabajceflpdaaArgs9
namespace Go.Proofs.Ytlfabajceflpdaa
open Go.RowKit Md
set_option linter.unusedVariables false
/-- A state that lies somewhere, of no more than two thousand sectors. -/
def Stands (w : World) (a : Option Addr) (n cap : Nat) (s : St) : Prop := n ≤ 2000 ∧ Lv w a n cap s.sure
theorem Stands.below {w w' : World} {a : Option Addr} {n cap : Nat} {s : St} (h : Stands w a n cap s) (b : Below w.heap.size w w') : Stands w' a n cap s := ⟨h.1, h.2.below b⟩
theorem Stands.eq {w : World} {a b : Option Addr} {n m cap kap : Nat} {s : St} (h : Stands w a n cap s) (k : Stands w b m kap s) : m = n := k.2.len.symm.trans h.2.len
theorem below_drew (w : World) : Below w.heap.size w w.drew := (Below.refl _ w).drew
theorem undrew {w w' : World} (b : Below w.drew.heap.size w.drew w') : Below w.heap.size w w' := Below.then (below_drew w) b
namespace Any9
section
variable {w : World} {a b : Option Addr} {n cap m kap : Nat} {s s' : St} {l : List V} {q : Bool} {x : Int} {v : V}
theorem seen_m (h : Stands w a n cap s) (hk : Lv w b m kap l) (hm : m ≤ 2000) (e : Hid (Md.seen s l = (s', q))) :
    Calls Try.prog 10 #[stv a n cap s, .slice b m kap] w fun e w' => ∃ a' n' cap', e = .returned (.tuple #[stv a' n' cap' s', .bool q]) ∧ Stands w' a' n' cap' s' ∧ Below w.heap.size w w' := by
  have e := e.out
  unfold Md.seen at e
  cases hq : may s l
  · rw [hq] at e
    cases e
    exact (Mod.seen_no h.2 hk h.1 hm hq).mono fun e w' ⟨he, hb⟩ => ⟨a, n, cap, he, h.below hb, hb⟩
  · rw [hq] at e
    cases e
    exact (Mod.seen_yes h.2 hk h.1 hm hq).mono fun e w' ⟨a', kap', he, hL, hb⟩ => ⟨a', m, kap', he, ⟨hm, hL⟩, hb⟩
theorem seen_r (h : Stands w a n cap s) (hk : Lv w b m kap l) (hm : m ≤ 2000) (e : Hid (Md.seen s l = (s', q))) :
    Calls Try.prog 11 #[stv a n cap s, .slice b m kap] w fun e w' => ∃ a' n' cap', e = .returned (.tuple #[stv a' n' cap' s', .bool q]) ∧ Stands w' a' n' cap' s' ∧ Below w.heap.size w w' := by
  have e := e.out
  unfold Md.seen at e
  cases hq : may s l
  · rw [hq] at e
    cases e
    exact (Ref9.seen_no h.2 hk h.1 hm hq).mono fun e w' ⟨he, hb⟩ => ⟨a, n, cap, he, h.below hb, hb⟩
  · rw [hq] at e
    cases e
    exact (Ref9.seen_yes h.2 hk h.1 hm hq).mono fun e w' ⟨he, hb⟩ => ⟨b, m, kap, he, ⟨hm, hk.below hb⟩, hb⟩
theorem done_m (h : Stands w a n cap s) (e : Hid (Md.done s x v = s')) :
    Calls Try.prog 13 #[stv a n cap s, .int .i64 x, vv v] w fun e w' => ∃ a' n' cap', e = .returned (stv a' n' cap' s') ∧ Stands w' a' n' cap' s' ∧ Below w.heap.size w w' := by
  have := Mod.done_c h.2 h.1 x v
  rw [e.out] at this
  exact this.mono fun e w' ⟨a', cap', he, hL, hb⟩ => ⟨a', n, cap', he, ⟨h.1, hL⟩, hb⟩
theorem done_r (h : Stands w a n cap s) (e : Hid (Md.done s x v = s')) :
    Calls Try.prog 14 #[stv a n cap s, .int .i64 x, vv v] w fun e w' => ∃ a' n' cap', e = .returned (stv a' n' cap' s') ∧ Stands w' a' n' cap' s' ∧ Below w.heap.size w w' := by
  have := Ref9.done_c h.2 h.1 x v
  rw [e.out] at this
  exact this.mono fun e w' ⟨a', cap', he, hL, hb⟩ => ⟨a', n, cap', he, ⟨h.1, hL⟩, hb⟩
theorem begun_sure : (Md.begun s x v).sure = s.sure := by unfold Md.begun; split <;> rfl
theorem begun_m (h : Stands w a n cap s) (e : Hid (Md.begun s x v = s')) :
    Calls Try.prog 15 #[stv a n cap s, .int .i64 x, vv v] w fun e w' => e = .returned (stv a n cap s') ∧ Stands w' a n cap s' ∧ Below w.heap.size w w' := by
  have := Mod.begun_c h.2 h.1 x v
  rw [e.out] at this
  exact this.mono fun e' w' ⟨he, hb⟩ => ⟨he, ⟨h.1, by rw [← e.out, begun_sure]; exact h.2.below hb⟩, hb⟩
theorem begun_r (h : Stands w a n cap s) (e : Hid (Md.begun s x v = s')) :
    Calls Try.prog 16 #[stv a n cap s, .int .i64 x, vv v] w fun e w' => e = .returned (stv a n cap s') ∧ Stands w' a n cap s' ∧ Below w.heap.size w w' := by
  have := Ref9.begun_c h.2 h.1 x v
  rw [e.out] at this
  exact this.mono fun e' w' ⟨he, hb⟩ => ⟨he, ⟨h.1, by rw [← e.out, begun_sure]; exact h.2.below hb⟩, hb⟩
theorem may_m (h : Stands w a n cap s) (hk : Lv w b m kap l) (hm : m ≤ 2000) (e : Hid (may s l = q)) :
    Calls Try.prog 17 #[stv a n cap s, .slice b m kap] w fun e w' => e = .returned (.bool q) ∧ Below w.heap.size w w' := by
  rw [← e.out]; exact Mod.may_c h.2 hk h.1 hm
theorem may_r (h : Stands w a n cap s) (hk : Lv w b m kap l) (hm : m ≤ 2000) (e : Hid (may s l = q)) :
    Calls Try.prog 18 #[stv a n cap s, .slice b m kap] w fun e w' => e = .returned (.bool q) ∧ Below w.heap.size w w' := by
  rw [← e.out]; exact Ref9.may_c h.2 hk h.1 hm
theorem same_r (h : Stands w a n cap s) (k : Stands w b m kap s) :
    Calls Try.prog 12 #[stv a n cap s, stv b m kap s] w fun e w' => e = .returned (.bool true) ∧ Below w.heap.size w w' := by
  obtain rfl := h.eq k
  exact Ref9.same_c h.2 k.2 h.1
end
end Any9
end Go.Proofs.Ytlfabajceflpdaa
