/- dioptralaw11.writes, and the plain law of the first op that has a word. -/
import Derived.Test.YtpdemjdjgehpgaaRw11
namespace Go.Proofs.Ytpdemjdjgehpgaa
open Go.RowKit Dc
set_option linter.unusedVariables false
set_option linter.unusedSimpArgs false
namespace Rows11
open Dec
theorem first_ex : ∀ (l : List Dc.Op) (o : Dc.Op) (z : Int), o ∈ l → encode o = some z → ∃ p y, first l = some (p, y)
  | [], _, _, h, _ => by cases h
  | q :: l, o, z, h, hz => by
    unfold first
    cases c : encode q with
    | some y => exact ⟨q, y, rfl⟩
    | none =>
      rcases List.mem_cons.1 h with rfl | h
      · rw [c] at hz; cases hz
      · exact first_ex l o z h hz
theorem first_is : ∀ (l : List Dc.Op) (o : Dc.Op) (z : Int), first l = some (o, z) → o ∈ l ∧ encode o = some z
  | [], _, _, h => by cases h
  | q :: l, o, z, h => by
    unfold first at h
    cases c : encode q with
    | some y =>
      rw [c] at h
      injection h with h; injection h with h1 h2
      subst h1 h2
      exact ⟨List.mem_cons_self .., c⟩
    | none =>
      rw [c] at h
      obtain ⟨h1, h2⟩ := first_is l o z h
      exact ⟨List.mem_cons_of_mem _ h1, h2⟩
theorem encode_absent {j : Nat} (hj : j < 69) {o : Dc.Op} {y : Int} (hn : o.name = (j : Int) + 1) (h : encode o = some y) (hd : (frm (row j).2).d = false) : o.rd = 0 := by
  obtain ⟨k, hk, hh, e⟩ := word_sound (word_encode h)
  have e0 : (k : Int) + 1 = o.name := by have := name_of (j := k) y; rw [← e] at this; exact this.symm
  obtain rfl : k = j := by rw [hn] at e0; omega
  have := (regs_of (j := k) y).1 hd
  rw [← e] at this
  exact this
theorem combos : ∀ c ∈ letters, ((frm c).d = true ∧ (frm c).r1 = false ∧ (frm c).r2 = false) ∨ ((frm c).d = true ∧ (frm c).r1 = true ∧ (frm c).r2 = false) ∨ ((frm c).d = false ∧ (frm c).r1 = true ∧ (frm c).r2 = true) ∨ ((frm c).d = true ∧ (frm c).r1 = true ∧ (frm c).r2 = true) ∨ ((frm c).d = false ∧ (frm c).r1 = false ∧ (frm c).r2 = false) := by decide +kernel
theorem enc0 {j : Nat} (hj : j < 69) (a b c : Int) (ha : 0 ≤ a) (ha' : a < 32) (hb : 0 ≤ b) (hb' : b < 32) (hc : 0 ≤ c) (hc' : c < 32) (n1 : (frm (row j).2).d = false → a = 0) (n2 : (frm (row j).2).r1 = false → b = 0) (n3 : (frm (row j).2).r2 = false → c = 0) : ∃ z, encode ⟨(j : Int) + 1, a, b, c, 0⟩ = some z :=
  ⟨_, encode_ok hj ⟨(j : Int) + 1, a, b, c, 0⟩ rfl ha ha' hb hb' hc hc' n1 n2 n3 (number_zero hj ⟨(j : Int) + 1, a, b, c, 0⟩ rfl)⟩
theorem cands_ex {n a b c : Int} (hn : 1 ≤ n ∧ n ≤ 69) (ha : 0 ≤ a) (ha' : a < 32) (hb : 0 ≤ b) (hb' : b < 32) (hc : 0 ≤ c) (hc' : c < 32) : ∃ p y, first (cands n a b c) = some (p, y) := by
  obtain ⟨j, rfl⟩ : ∃ j : Nat, n = j + 1 := ⟨(n - 1).toNat, by omega⟩
  have hj : j < 69 := by omega
  have z0 : (0 : Int) ≤ 0 := by omega
  have z1 : (0 : Int) < 32 := by omega
  rcases combos _ (row_letter j hj) with ⟨h1, h2, h3⟩ | ⟨h1, h2, h3⟩ | ⟨h1, h2, h3⟩ | ⟨h1, h2, h3⟩ | ⟨h1, h2, h3⟩
  · obtain ⟨z, hz⟩ := enc0 hj a 0 0 ha ha' z0 z1 z0 z1 (fun e => by rw [h1] at e; cases e) (fun _ => rfl) (fun _ => rfl)
    exact first_ex _ _ z (by simp [cands]) hz
  · obtain ⟨z, hz⟩ := enc0 hj a b 0 ha ha' hb hb' z0 z1 (fun e => by rw [h1] at e; cases e) (fun e => by rw [h2] at e; cases e) (fun _ => rfl)
    exact first_ex _ _ z (by simp [cands]) hz
  · obtain ⟨z, hz⟩ := enc0 hj 0 b c z0 z1 hb hb' hc hc' (fun _ => rfl) (fun e => by rw [h2] at e; cases e) (fun e => by rw [h3] at e; cases e)
    exact first_ex _ _ z (by simp [cands]) hz
  · obtain ⟨z, hz⟩ := enc0 hj a b c ha ha' hb hb' hc hc' (fun e => by rw [h1] at e; cases e) (fun e => by rw [h2] at e; cases e) (fun e => by rw [h3] at e; cases e)
    exact first_ex _ _ z (by simp [cands]) hz
  · obtain ⟨z, hz⟩ := enc0 hj 0 0 0 z0 z1 z0 z1 z0 z1 (fun _ => rfl) (fun _ => rfl) (fun _ => rfl)
    exact first_ex _ _ z (by simp [cands]) hz
theorem cands_name {n a b c : Int} {o : Dc.Op} (h : o ∈ cands n a b c) : o.name = n ∧ o.imm = 0 := by
  simp only [cands, List.mem_cons, List.not_mem_nil, or_false] at h
  rcases h with rfl | rfl | rfl | rfl | rfl <;> exact ⟨rfl, rfl⟩
def threes (n : Int) : List Dc.Op := [⟨n, 1, 1, 1, 0⟩, ⟨n, 1, 1, 0, 0⟩, ⟨n, 1, 0, 0, 0⟩]
theorem writes_first {n : Int} (hn : 1 ≤ n ∧ n ≤ 69) : (match first (threes n) with | some _ => n != 57 | none => false) = writes n := by
  obtain ⟨j, rfl⟩ : ∃ j : Nat, n = j + 1 := ⟨(n - 1).toNat, by omega⟩
  have hj : j < 69 := by omega
  have hw : writes ((j : Int) + 1) = (((j : Int) + 1 != 57) && (frm (row j).2).d) := by unfold writes; rw [if_neg (by omega), show ((j : Int) + 1 - 1).toNat = j by omega]
  rw [hw]
  have z0 : (0 : Int) ≤ 0 := by omega
  have z1 : (0 : Int) < 32 := by omega
  have o0 : (0 : Int) ≤ 1 := by omega
  have o1 : (1 : Int) < 32 := by omega
  cases hd : (frm (row j).2).d
  · cases h : first (threes ((j : Int) + 1)) with
    | none => simp
    | some p =>
      obtain ⟨h1, h2⟩ := first_is _ p.1 p.2 h
      have hr : p.1.rd = 1 ∧ p.1.name = (j : Int) + 1 := by
        simp only [threes, List.mem_cons, List.not_mem_nil, or_false] at h1
        rcases h1 with h1 | h1 | h1 <;> (rw [h1]; exact ⟨rfl, rfl⟩)
      have := encode_absent hj hr.2 h2 hd
      omega
  · have : ∃ p y, first (threes ((j : Int) + 1)) = some (p, y) := by
      rcases combos _ (row_letter j hj) with ⟨h1, h2, h3⟩ | ⟨h1, h2, h3⟩ | ⟨h1, h2, h3⟩ | ⟨h1, h2, h3⟩ | ⟨h1, h2, h3⟩
      · obtain ⟨z, hz⟩ := enc0 hj 1 0 0 o0 o1 z0 z1 z0 z1 (fun e => by rw [h1] at e; cases e) (fun _ => rfl) (fun _ => rfl)
        exact first_ex _ _ z (by simp [threes]) hz
      · obtain ⟨z, hz⟩ := enc0 hj 1 1 0 o0 o1 o0 o1 z0 z1 (fun e => by rw [h1] at e; cases e) (fun e => by rw [h2] at e; cases e) (fun _ => rfl)
        exact first_ex _ _ z (by simp [threes]) hz
      · rw [hd] at h1; cases h1
      · obtain ⟨z, hz⟩ := enc0 hj 1 1 1 o0 o1 o0 o1 o0 o1 (fun e => by rw [h1] at e; cases e) (fun e => by rw [h2] at e; cases e) (fun e => by rw [h3] at e; cases e)
        exact first_ex _ _ z (by simp [threes]) hz
      · rw [hd] at h1; cases h1
    obtain ⟨p, y, e⟩ := this
    rw [e]; simp
set_option maxHeartbeats 4000000 in
set_option maxRecDepth 100000 in
theorem writes_c {w : World} {n : Int} (hn : 1 ≤ n ∧ n ≤ 69) (q : Bool) (hq : Hid ((match first (threes n) with | some _ => n != 57 | none => false) = q)) :
    Calls Try.prog 17 #[.int .i64 n] w fun e w' => e = .returned (.bool q) ∧ Below w.heap.size w w' := by
  go_enter Try.func17, Try.ntmps17
  go_wp2_with (go_at_call 12; fail)
  have hO : Ops (w.alloc (.cells (flat5 (threes n)).toArray 25)) w.heap.size (threes n) := ops_new rfl _ _
  have hW : Below w.heap.size w (w.alloc (.cells (flat5 (threes n)).toArray 25)) := below_al (Below.refl _ _) _
  change Code.wp _ _ _ _ (w.alloc (.cells (flat5 (threes n)).toArray 25))
  generalize w.alloc (.cells (flat5 (threes n)).toArray 25) = W1 at *
  go_loopw [15] (fun iv wr => ∃ j : Nat, j ≤ 3 ∧ iv = .int .i64 j ∧ Below W1.heap.size W1 wr ∧ Hid ((match first ((threes n).drop j) with | some _ => n != 57 | none => false) = q)) (fun i _ => 3 - (intOf i).toNat)
  case atStart => exact ⟨0, by omega, rfl, Below.refl _ _, hq⟩
  case round =>
    obtain ⟨j, hj, rfl, hB, hE⟩ := hrel
    by_cases hlt : j < 3
    · have hlt2 : (j : Int) < 3 := by omega
      obtain ⟨d0, d1, d2, d3, d4⟩ := (hO.below hB) j hlt
      have hE2 := hE.out
      rw [first_step (threes n) j hlt] at hE2
      have hqn : ((threes n).getD j Dc.Op.z).name = n ∧ ((threes n).getD j Dc.Op.z).imm = 0 := by
        have : j = 0 ∨ j = 1 ∨ j = 2 := by omega
        rcases this with rfl | rfl | rfl <;> exact ⟨rfl, rfl⟩
      generalize (threes n).getD j Dc.Op.z = qq at *
      obtain ⟨rs, hrs⟩ : ∃ rs, Hid (encode qq = rs) := ⟨_, rfl⟩
      have NE := fun W => Dec.encode_r qq W (by omega) (by omega) (by omega) (by omega) rs hrs
      rw [hrs.out] at hE2
      unfold opv at NE
      clear hE hq hqn
      rcases rs with _ | zz
      · have hE3 : Hid ((match first ((threes n).drop (j + 1)) with | some _ => n != 57 | none => false) = q) := hE2
        clear hE2
        unfold encv at NE
        go_wp2_with (go_at_call 12; refine (NE _).mono ?_; rintro e w5 ⟨rfl, b5⟩; clear NE; obtain ⟨EB, b6⟩ := alloc1_then b5; clear b5; have BB := Below.then hB b6; clear b6)
        go_roundw
        case rel => exact ⟨j + 1, by omega, by go_num, BB, hE3⟩
        case measure => simp [intOf]; omega
      · have hE3 : (n != 57) = q := hE2
        subst hE3
        clear hE2
        unfold encv at NE
        go_wp2_with (go_at_call 12; refine (NE _).mono ?_; rintro e w5 ⟨rfl, b5⟩; clear NE; obtain ⟨EB, b6⟩ := alloc1_then b5; clear b5; have BB := Below.then hB b6; clear b6)
        go_ret
        exact ⟨rfl, Below.then hW BB⟩
    · obtain rfl : j = 3 := by omega
      have hE2 : false = q := hE.out
      subst hE2
      have hlt2 : ¬ ((3 : Nat) : Int) < 3 := by omega
      go_wp2
      go_ret
      exact ⟨rfl, Below.then hW hB⟩
end Rows11
end Go.Proofs.Ytpdemjdjgehpgaa
