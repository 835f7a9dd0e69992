/- Contracts of package walk: tables. -/
import Derived.Test.YtejgaldeamjplaaLets
namespace Go.Proofs.Ytejgaldeamjplaa
open Go.RowKit
set_option linter.unusedVariables false
namespace Walk
set_option maxHeartbeats 400000 in
set_option maxRecDepth 100000 in
theorem cause_c (c : Int) (p : Bool) (w : World) (hc : c = 0 ∨ c = 1 ∨ c = 2) : Calls Try.prog 18 #[.int .i64 c, .bool p] w fun e w' => e = .returned (.int .u32 (Wk.cause c p)) ∧ Below w.heap.size w w' := by
  rcases hc with rfl | rfl | rfl <;> cases p
  all_goals
    go_enter Try.func18, Try.ntmps18
    go_wp2
    go_ret
    refine ⟨rfl, ?_⟩
    repeat (first | exact Below.refl _ _ | apply below_al)
abbrev tabv (g : Nat) (a : Wk.Ask) : Value := .agg #[.iface 30 (.pointer (some ⟨g, 0, none⟩)), .int .u32 a.va, .int .u32 a.satp, .int .u32 a.status, .int .i64 a.access, .int .i64 a.priv]
abbrev gives (c : Int) (p : Bool) : Ending := .panicked [{ v := .iface 51 (.int .u32 (Wk.cause c p)), recovered := false }]
set_option maxHeartbeats 400000 in
set_option maxRecDepth 100000 in
theorem give_c (g : Nat) (a : Wk.Ask) (p : Bool) (w : World) (hc : a.access = 0 ∨ a.access = 1 ∨ a.access = 2) : Calls Try.prog 29 #[tabv g a, .bool p] w fun e w' => e = gives a.access p ∧ Below w.heap.size w w' := by
  have hcc := fun W => cause_c a.access p W hc
  clear hc
  go_enter Try.func29, Try.ntmps29
  go_wp2_with (go_at_call 18; refine (hcc _).mono ?_; rintro e w1 ⟨rfl, b1⟩)
  exact ⟨rfl, rfl, Below.then (below_al (Below.refl _ _) _) b1⟩
theorem method_word (a : Addr) (w : World) : (method 195 30 (.pointer (some a)) "Word").run Try.prog w = .ok (15, .pointer (some a)) w := by kernel_rfl
theorem method_put (a : Addr) (w : World) : (method 195 30 (.pointer (some a)) "Put").run Try.prog w = .ok (17, .pointer (some a)) w := by kernel_rfl
section
variable {w0 w w' : World} {g r : Nat} {base : Int} {ad : Option Addr} {kap : Nat} {zs : List Int}
set_option maxHeartbeats 1000000 in
set_option maxRecDepth 100000 in
theorem entry_1 (h : RamAt w0 w g r base ad kap zs) (a : Wk.Ask) (ha : a.Ok) {f : Int} (hf : 0 ≤ f) (hf' : f < 4194304) {i : Nat} (q : Hid (Wk.entry base zs f a.va 1 = .ok i)) :
    Calls Try.prog 39 #[tabv g a, .int .u32 f, .int .i64 1] w fun e w' => e = .returned (.agg #[.int .u32 (Wk.at_ f a.va 1), .int .u32 (zs.getD i 0), .bool true]) ∧ Below w.heap.size w w' := by
  obtain ⟨hi, hv, hrw, hp⟩ := Wk.entry_err q.out
  have e0 : Wk.at_ f a.va 1 = f * 4096 + 4 * Bt.field a.va 22 10 := rfl
  obtain ⟨f0, f1⟩ := Bt.field_rng a.va 22 10
  rw [e0] at hp ⊢
  obtain ⟨fv, hfv⟩ : ∃ fv, Hid (Bt.field a.va 22 10 = fv) := ⟨_, rfl⟩
  rw [hfv.out] at hp f0 f1 ⊢
  have hp2 := Lib.hid hp
  have hx : 0 ≤ f * 4096 + 4 * fv := by omega
  have hx' := (Wk.place_lt hp).2.2.1
  clear hp e0
  obtain ⟨z0, z1⟩ := h.z0 i
  obtain ⟨x, HX⟩ : ∃ x, Hid (zs.getD i 0 = x) := ⟨_, rfl⟩
  rw [HX.out] at hv hrw z0 z1 ⊢
  have e1 := m1 z0 z1
  have e2 := m2 z0 z1
  have e4 := m4 z0 z1
  rw [hv] at e1
  have hmw := method_word
  have HR : ∀ W, Below w.heap.size w W → RamAt w0 W g r base ad kap zs := fun W hb => h.then hb
  have BB := below_al (below_al (Below.refl _ w) (.cells (tabv g a).cells 53)) (.cells #[.int .u32 0, .int .u32 0, .bool false] 67)
  generalize Wk.bit x 1 = b1 at *
  generalize Wk.bit x 2 = b2 at *
  clear h hv
  have hb12 : (b2 = false) ∨ (b2 = true ∧ b1 = true) := by
    cases b2
    · exact .inl rfl
    · exact .inr ⟨rfl, hrw rfl⟩
  clear hrw
  rcases hb12 with rfl | ⟨rfl, rfl⟩
  all_goals
    go_enter Try.func39, Try.ntmps39
    go_wp2_with (first | (go_at_call 33; refine (Bits.field_c _ _ _ _ ha.va0 ha.va1).mono ?_; rintro e w' ⟨rfl, rfl⟩; rw [hfv.out]) | (go_at_call 15; refine (word_some (HR _ BB) hx hx' hp2).mono ?_; rw [HX.out]; rintro e w' ⟨rfl, rfl⟩; clear HR BB) | (go_at_call 40; refine (has_c _ _ _ _ _).mono ?_; rintro e w' ⟨rfl, rfl⟩))
    refine bodyPost_ret (v := .agg #[.int .u32 (f * 4096 + 4 * fv), .int .u32 x, .bool true]) ?_ rfl ⟨rfl, ?_⟩
    · simp [results, Try.results39, go_sem]
    · repeat (first | exact Below.refl _ _ | apply below_al)
set_option maxHeartbeats 1000000 in
set_option maxRecDepth 100000 in
theorem entry_1_none (h : RamAt w0 w g r base ad kap zs) (a : Wk.Ask) (ha : a.Ok) {f : Int} (hf : 0 ≤ f) (hf' : f < 4194304) (hp : Wk.place base zs.length (Wk.at_ f a.va 1) = none) :
    Calls Try.prog 39 #[tabv g a, .int .u32 f, .int .i64 1] w fun e w' => e = gives a.access false ∧ Below w.heap.size w w' := by
  have e0 : Wk.at_ f a.va 1 = f * 4096 + 4 * Bt.field a.va 22 10 := rfl
  obtain ⟨f0, f1⟩ := Bt.field_rng a.va 22 10
  rw [e0] at hp
  obtain ⟨fv, hfv⟩ : ∃ fv, Hid (Bt.field a.va 22 10 = fv) := ⟨_, rfl⟩
  rw [hfv.out] at hp f0 f1
  have hp2 := Lib.hid hp
  have hx : 0 ≤ f * 4096 + 4 * fv := by omega
  clear hp e0
  have hmw := method_word
  have HR : ∀ W, Below w.heap.size w W → RamAt w0 W g r base ad kap zs := fun W hb => h.then hb
  have BB := below_al (below_al (Below.refl _ w) (.cells (tabv g a).cells 53)) (.cells #[.int .u32 0, .int .u32 0, .bool false] 67)
  clear h
  by_cases hx' : f * 4096 + 4 * fv < 4294967296
  · go_enter Try.func39, Try.ntmps39
    go_wp2_with (first | (go_at_call 33; refine (Bits.field_c _ _ _ _ ha.va0 ha.va1).mono ?_; rintro e w' ⟨rfl, rfl⟩; rw [hfv.out]) | (go_at_call 15; refine (word_none (HR _ BB) hx hx' hp2).mono ?_; rintro e w' ⟨rfl, rfl⟩; clear HR BB) | (go_at_call 29; refine (give_c g a _ _ ha.acc).mono ?_; rintro e w1 ⟨rfl, bb⟩))
    refine ⟨rfl, rfl, Below.then ?_ bb⟩
    repeat (first | exact Below.refl _ _ | apply below_al)
  · go_enter Try.func39, Try.ntmps39
    go_wp2_with (first | (go_at_call 33; refine (Bits.field_c _ _ _ _ ha.va0 ha.va1).mono ?_; rintro e w' ⟨rfl, rfl⟩; rw [hfv.out]) | (go_at_call 29; refine (give_c g a _ _ ha.acc).mono ?_; rintro e w1 ⟨rfl, bb⟩))
    refine ⟨rfl, rfl, Below.then ?_ bb⟩
    repeat (first | exact Below.refl _ _ | apply below_al)
set_option maxHeartbeats 1000000 in
set_option maxRecDepth 100000 in
theorem entry_1_v (h : RamAt w0 w g r base ad kap zs) (a : Wk.Ask) (ha : a.Ok) {f : Int} (hf : 0 ≤ f) (hf' : f < 4194304) {i : Nat} (hp : Wk.place base zs.length (Wk.at_ f a.va 1) = some i) (hv : Wk.bit (zs.getD i 0) 0 = false) :
    Calls Try.prog 39 #[tabv g a, .int .u32 f, .int .i64 1] w fun e w' => e = gives a.access true ∧ Below w.heap.size w w' := by
  have e0 : Wk.at_ f a.va 1 = f * 4096 + 4 * Bt.field a.va 22 10 := rfl
  obtain ⟨f0, f1⟩ := Bt.field_rng a.va 22 10
  rw [e0] at hp
  obtain ⟨fv, hfv⟩ : ∃ fv, Hid (Bt.field a.va 22 10 = fv) := ⟨_, rfl⟩
  rw [hfv.out] at hp f0 f1
  have hp2 := Lib.hid hp
  have hx : 0 ≤ f * 4096 + 4 * fv := by omega
  have hx' := (Wk.place_lt hp).2.2.1
  clear hp e0
  obtain ⟨z0, z1⟩ := h.z0 i
  obtain ⟨x, HX⟩ : ∃ x, Hid (zs.getD i 0 = x) := ⟨_, rfl⟩
  rw [HX.out] at hv z0 z1 
  have e1 := m1 z0 z1
  have e2 := m2 z0 z1
  have e4 := m4 z0 z1
  rw [hv] at e1
  have hmw := method_word
  have HR : ∀ W, Below w.heap.size w W → RamAt w0 W g r base ad kap zs := fun W hb => h.then hb
  have BB := below_al (below_al (Below.refl _ w) (.cells (tabv g a).cells 53)) (.cells #[.int .u32 0, .int .u32 0, .bool false] 67)
  clear h hv
  go_enter Try.func39, Try.ntmps39
  go_wp2_with (first | (go_at_call 33; refine (Bits.field_c _ _ _ _ ha.va0 ha.va1).mono ?_; rintro e w' ⟨rfl, rfl⟩; rw [hfv.out]) | (go_at_call 15; refine (word_some (HR _ BB) hx hx' hp2).mono ?_; rw [HX.out]; rintro e w' ⟨rfl, rfl⟩; clear HR BB) | (go_at_call 40; refine (has_c _ _ _ _ _).mono ?_; rintro e w' ⟨rfl, rfl⟩) | (go_at_call 29; refine (give_c g a _ _ ha.acc).mono ?_; rintro e w1 ⟨rfl, bb⟩))
  refine ⟨rfl, rfl, Below.then ?_ bb⟩
  repeat (first | exact Below.refl _ _ | apply below_al)
set_option maxHeartbeats 1000000 in
set_option maxRecDepth 100000 in
theorem entry_1_w (h : RamAt w0 w g r base ad kap zs) (a : Wk.Ask) (ha : a.Ok) {f : Int} (hf : 0 ≤ f) (hf' : f < 4194304) {i : Nat} (hp : Wk.place base zs.length (Wk.at_ f a.va 1) = some i) (hv : Wk.bit (zs.getD i 0) 0 = true) (hb2 : Wk.bit (zs.getD i 0) 2 = true) (hb1 : Wk.bit (zs.getD i 0) 1 = false) :
    Calls Try.prog 39 #[tabv g a, .int .u32 f, .int .i64 1] w fun e w' => e = gives a.access true ∧ Below w.heap.size w w' := by
  have e0 : Wk.at_ f a.va 1 = f * 4096 + 4 * Bt.field a.va 22 10 := rfl
  obtain ⟨f0, f1⟩ := Bt.field_rng a.va 22 10
  rw [e0] at hp
  obtain ⟨fv, hfv⟩ : ∃ fv, Hid (Bt.field a.va 22 10 = fv) := ⟨_, rfl⟩
  rw [hfv.out] at hp f0 f1
  have hp2 := Lib.hid hp
  have hx : 0 ≤ f * 4096 + 4 * fv := by omega
  have hx' := (Wk.place_lt hp).2.2.1
  clear hp e0
  obtain ⟨z0, z1⟩ := h.z0 i
  obtain ⟨x, HX⟩ : ∃ x, Hid (zs.getD i 0 = x) := ⟨_, rfl⟩
  rw [HX.out] at hv hb2 hb1 z0 z1 
  have e1 := m1 z0 z1
  have e2 := m2 z0 z1
  have e4 := m4 z0 z1
  rw [hv] at e1
  rw [hb2] at e4
  rw [hb1] at e2
  have hmw := method_word
  have HR : ∀ W, Below w.heap.size w W → RamAt w0 W g r base ad kap zs := fun W hb => h.then hb
  have BB := below_al (below_al (Below.refl _ w) (.cells (tabv g a).cells 53)) (.cells #[.int .u32 0, .int .u32 0, .bool false] 67)
  clear h hv
  go_enter Try.func39, Try.ntmps39
  go_wp2_with (first | (go_at_call 33; refine (Bits.field_c _ _ _ _ ha.va0 ha.va1).mono ?_; rintro e w' ⟨rfl, rfl⟩; rw [hfv.out]) | (go_at_call 15; refine (word_some (HR _ BB) hx hx' hp2).mono ?_; rw [HX.out]; rintro e w' ⟨rfl, rfl⟩; clear HR BB) | (go_at_call 40; refine (has_c _ _ _ _ _).mono ?_; rintro e w' ⟨rfl, rfl⟩) | (go_at_call 29; refine (give_c g a _ _ ha.acc).mono ?_; rintro e w1 ⟨rfl, bb⟩))
  refine ⟨rfl, rfl, Below.then ?_ bb⟩
  repeat (first | exact Below.refl _ _ | apply below_al)
theorem entry_1_err (h : RamAt w0 w g r base ad kap zs) (a : Wk.Ask) (ha : a.Ok) {f : Int} (hf : 0 ≤ f) (hf' : f < 4194304) {p : Bool} (q : Hid (Wk.entry base zs f a.va 1 = .error p)) :
    Calls Try.prog 39 #[tabv g a, .int .u32 f, .int .i64 1] w fun e w' => e = gives a.access p ∧ Below w.heap.size w w' := by
  rcases Wk.entry_bad q.out with ⟨rfl, hp⟩ | ⟨rfl, i, hp, hv | ⟨hv, h2, h1⟩⟩
  · exact entry_1_none h a ha hf hf' hp
  · exact entry_1_v h a ha hf hf' hp hv
  · exact entry_1_w h a ha hf hf' hp hv h2 h1
set_option maxHeartbeats 1000000 in
set_option maxRecDepth 100000 in
theorem entry_0 (h : RamAt w0 w g r base ad kap zs) (a : Wk.Ask) (ha : a.Ok) {f : Int} (hf : 0 ≤ f) (hf' : f < 4194304) {i : Nat} (q : Hid (Wk.entry base zs f a.va 0 = .ok i)) :
    Calls Try.prog 39 #[tabv g a, .int .u32 f, .int .i64 0] w fun e w' => e = .returned (.agg #[.int .u32 (Wk.at_ f a.va 0), .int .u32 (zs.getD i 0), .bool false]) ∧ Below w.heap.size w w' := by
  obtain ⟨hi, hv, hrw, hp⟩ := Wk.entry_err q.out
  have e0 : Wk.at_ f a.va 0 = f * 4096 + 4 * Bt.field a.va 12 10 := rfl
  obtain ⟨f0, f1⟩ := Bt.field_rng a.va 12 10
  rw [e0] at hp ⊢
  obtain ⟨fv, hfv⟩ : ∃ fv, Hid (Bt.field a.va 12 10 = fv) := ⟨_, rfl⟩
  rw [hfv.out] at hp f0 f1 ⊢
  have hp2 := Lib.hid hp
  have hx : 0 ≤ f * 4096 + 4 * fv := by omega
  have hx' := (Wk.place_lt hp).2.2.1
  clear hp e0
  obtain ⟨z0, z1⟩ := h.z0 i
  obtain ⟨x, HX⟩ : ∃ x, Hid (zs.getD i 0 = x) := ⟨_, rfl⟩
  rw [HX.out] at hv hrw z0 z1 ⊢
  have e1 := m1 z0 z1
  have e2 := m2 z0 z1
  have e4 := m4 z0 z1
  rw [hv] at e1
  have hmw := method_word
  have HR : ∀ W, Below w.heap.size w W → RamAt w0 W g r base ad kap zs := fun W hb => h.then hb
  have BB := below_al (below_al (Below.refl _ w) (.cells (tabv g a).cells 53)) (.cells #[.int .u32 0, .int .u32 0, .bool false] 67)
  generalize Wk.bit x 1 = b1 at *
  generalize Wk.bit x 2 = b2 at *
  clear h hv
  have hb12 : (b2 = false) ∨ (b2 = true ∧ b1 = true) := by
    cases b2
    · exact .inl rfl
    · exact .inr ⟨rfl, hrw rfl⟩
  clear hrw
  rcases hb12 with rfl | ⟨rfl, rfl⟩
  all_goals
    go_enter Try.func39, Try.ntmps39
    go_wp2_with (first | (go_at_call 33; refine (Bits.field_c _ _ _ _ ha.va0 ha.va1).mono ?_; rintro e w' ⟨rfl, rfl⟩; rw [hfv.out]) | (go_at_call 15; refine (word_some (HR _ BB) hx hx' hp2).mono ?_; rw [HX.out]; rintro e w' ⟨rfl, rfl⟩; clear HR BB) | (go_at_call 40; refine (has_c _ _ _ _ _).mono ?_; rintro e w' ⟨rfl, rfl⟩))
    refine bodyPost_ret (v := .agg #[.int .u32 (f * 4096 + 4 * fv), .int .u32 x, .bool false]) ?_ rfl ⟨rfl, ?_⟩
    · simp [results, Try.results39, go_sem]
    · repeat (first | exact Below.refl _ _ | apply below_al)
set_option maxHeartbeats 1000000 in
set_option maxRecDepth 100000 in
theorem entry_0_none (h : RamAt w0 w g r base ad kap zs) (a : Wk.Ask) (ha : a.Ok) {f : Int} (hf : 0 ≤ f) (hf' : f < 4194304) (hp : Wk.place base zs.length (Wk.at_ f a.va 0) = none) :
    Calls Try.prog 39 #[tabv g a, .int .u32 f, .int .i64 0] w fun e w' => e = gives a.access false ∧ Below w.heap.size w w' := by
  have e0 : Wk.at_ f a.va 0 = f * 4096 + 4 * Bt.field a.va 12 10 := rfl
  obtain ⟨f0, f1⟩ := Bt.field_rng a.va 12 10
  rw [e0] at hp
  obtain ⟨fv, hfv⟩ : ∃ fv, Hid (Bt.field a.va 12 10 = fv) := ⟨_, rfl⟩
  rw [hfv.out] at hp f0 f1
  have hp2 := Lib.hid hp
  have hx : 0 ≤ f * 4096 + 4 * fv := by omega
  clear hp e0
  have hmw := method_word
  have HR : ∀ W, Below w.heap.size w W → RamAt w0 W g r base ad kap zs := fun W hb => h.then hb
  have BB := below_al (below_al (Below.refl _ w) (.cells (tabv g a).cells 53)) (.cells #[.int .u32 0, .int .u32 0, .bool false] 67)
  clear h
  by_cases hx' : f * 4096 + 4 * fv < 4294967296
  · go_enter Try.func39, Try.ntmps39
    go_wp2_with (first | (go_at_call 33; refine (Bits.field_c _ _ _ _ ha.va0 ha.va1).mono ?_; rintro e w' ⟨rfl, rfl⟩; rw [hfv.out]) | (go_at_call 15; refine (word_none (HR _ BB) hx hx' hp2).mono ?_; rintro e w' ⟨rfl, rfl⟩; clear HR BB) | (go_at_call 29; refine (give_c g a _ _ ha.acc).mono ?_; rintro e w1 ⟨rfl, bb⟩))
    refine ⟨rfl, rfl, Below.then ?_ bb⟩
    repeat (first | exact Below.refl _ _ | apply below_al)
  · go_enter Try.func39, Try.ntmps39
    go_wp2_with (first | (go_at_call 33; refine (Bits.field_c _ _ _ _ ha.va0 ha.va1).mono ?_; rintro e w' ⟨rfl, rfl⟩; rw [hfv.out]) | (go_at_call 29; refine (give_c g a _ _ ha.acc).mono ?_; rintro e w1 ⟨rfl, bb⟩))
    refine ⟨rfl, rfl, Below.then ?_ bb⟩
    repeat (first | exact Below.refl _ _ | apply below_al)
set_option maxHeartbeats 1000000 in
set_option maxRecDepth 100000 in
theorem entry_0_v (h : RamAt w0 w g r base ad kap zs) (a : Wk.Ask) (ha : a.Ok) {f : Int} (hf : 0 ≤ f) (hf' : f < 4194304) {i : Nat} (hp : Wk.place base zs.length (Wk.at_ f a.va 0) = some i) (hv : Wk.bit (zs.getD i 0) 0 = false) :
    Calls Try.prog 39 #[tabv g a, .int .u32 f, .int .i64 0] w fun e w' => e = gives a.access true ∧ Below w.heap.size w w' := by
  have e0 : Wk.at_ f a.va 0 = f * 4096 + 4 * Bt.field a.va 12 10 := rfl
  obtain ⟨f0, f1⟩ := Bt.field_rng a.va 12 10
  rw [e0] at hp
  obtain ⟨fv, hfv⟩ : ∃ fv, Hid (Bt.field a.va 12 10 = fv) := ⟨_, rfl⟩
  rw [hfv.out] at hp f0 f1
  have hp2 := Lib.hid hp
  have hx : 0 ≤ f * 4096 + 4 * fv := by omega
  have hx' := (Wk.place_lt hp).2.2.1
  clear hp e0
  obtain ⟨z0, z1⟩ := h.z0 i
  obtain ⟨x, HX⟩ : ∃ x, Hid (zs.getD i 0 = x) := ⟨_, rfl⟩
  rw [HX.out] at hv z0 z1 
  have e1 := m1 z0 z1
  have e2 := m2 z0 z1
  have e4 := m4 z0 z1
  rw [hv] at e1
  have hmw := method_word
  have HR : ∀ W, Below w.heap.size w W → RamAt w0 W g r base ad kap zs := fun W hb => h.then hb
  have BB := below_al (below_al (Below.refl _ w) (.cells (tabv g a).cells 53)) (.cells #[.int .u32 0, .int .u32 0, .bool false] 67)
  clear h hv
  go_enter Try.func39, Try.ntmps39
  go_wp2_with (first | (go_at_call 33; refine (Bits.field_c _ _ _ _ ha.va0 ha.va1).mono ?_; rintro e w' ⟨rfl, rfl⟩; rw [hfv.out]) | (go_at_call 15; refine (word_some (HR _ BB) hx hx' hp2).mono ?_; rw [HX.out]; rintro e w' ⟨rfl, rfl⟩; clear HR BB) | (go_at_call 40; refine (has_c _ _ _ _ _).mono ?_; rintro e w' ⟨rfl, rfl⟩) | (go_at_call 29; refine (give_c g a _ _ ha.acc).mono ?_; rintro e w1 ⟨rfl, bb⟩))
  refine ⟨rfl, rfl, Below.then ?_ bb⟩
  repeat (first | exact Below.refl _ _ | apply below_al)
set_option maxHeartbeats 1000000 in
set_option maxRecDepth 100000 in
theorem entry_0_w (h : RamAt w0 w g r base ad kap zs) (a : Wk.Ask) (ha : a.Ok) {f : Int} (hf : 0 ≤ f) (hf' : f < 4194304) {i : Nat} (hp : Wk.place base zs.length (Wk.at_ f a.va 0) = some i) (hv : Wk.bit (zs.getD i 0) 0 = true) (hb2 : Wk.bit (zs.getD i 0) 2 = true) (hb1 : Wk.bit (zs.getD i 0) 1 = false) :
    Calls Try.prog 39 #[tabv g a, .int .u32 f, .int .i64 0] w fun e w' => e = gives a.access true ∧ Below w.heap.size w w' := by
  have e0 : Wk.at_ f a.va 0 = f * 4096 + 4 * Bt.field a.va 12 10 := rfl
  obtain ⟨f0, f1⟩ := Bt.field_rng a.va 12 10
  rw [e0] at hp
  obtain ⟨fv, hfv⟩ : ∃ fv, Hid (Bt.field a.va 12 10 = fv) := ⟨_, rfl⟩
  rw [hfv.out] at hp f0 f1
  have hp2 := Lib.hid hp
  have hx : 0 ≤ f * 4096 + 4 * fv := by omega
  have hx' := (Wk.place_lt hp).2.2.1
  clear hp e0
  obtain ⟨z0, z1⟩ := h.z0 i
  obtain ⟨x, HX⟩ : ∃ x, Hid (zs.getD i 0 = x) := ⟨_, rfl⟩
  rw [HX.out] at hv hb2 hb1 z0 z1 
  have e1 := m1 z0 z1
  have e2 := m2 z0 z1
  have e4 := m4 z0 z1
  rw [hv] at e1
  rw [hb2] at e4
  rw [hb1] at e2
  have hmw := method_word
  have HR : ∀ W, Below w.heap.size w W → RamAt w0 W g r base ad kap zs := fun W hb => h.then hb
  have BB := below_al (below_al (Below.refl _ w) (.cells (tabv g a).cells 53)) (.cells #[.int .u32 0, .int .u32 0, .bool false] 67)
  clear h hv
  go_enter Try.func39, Try.ntmps39
  go_wp2_with (first | (go_at_call 33; refine (Bits.field_c _ _ _ _ ha.va0 ha.va1).mono ?_; rintro e w' ⟨rfl, rfl⟩; rw [hfv.out]) | (go_at_call 15; refine (word_some (HR _ BB) hx hx' hp2).mono ?_; rw [HX.out]; rintro e w' ⟨rfl, rfl⟩; clear HR BB) | (go_at_call 40; refine (has_c _ _ _ _ _).mono ?_; rintro e w' ⟨rfl, rfl⟩) | (go_at_call 29; refine (give_c g a _ _ ha.acc).mono ?_; rintro e w1 ⟨rfl, bb⟩))
  refine ⟨rfl, rfl, Below.then ?_ bb⟩
  repeat (first | exact Below.refl _ _ | apply below_al)
theorem entry_0_err (h : RamAt w0 w g r base ad kap zs) (a : Wk.Ask) (ha : a.Ok) {f : Int} (hf : 0 ≤ f) (hf' : f < 4194304) {p : Bool} (q : Hid (Wk.entry base zs f a.va 0 = .error p)) :
    Calls Try.prog 39 #[tabv g a, .int .u32 f, .int .i64 0] w fun e w' => e = gives a.access p ∧ Below w.heap.size w w' := by
  rcases Wk.entry_bad q.out with ⟨rfl, hp⟩ | ⟨rfl, i, hp, hv | ⟨hv, h2, h1⟩⟩
  · exact entry_0_none h a ha hf hf' hp
  · exact entry_0_v h a ha hf hf' hp hv
  · exact entry_0_w h a ha hf hf' hp hv h2 h1
end
end Walk
end Go.Proofs.Ytejgaldeamjplaa
