/- DriverActs: a driver answers every call, in every order, as the document says, and its chip has behind each the document's words. No condition. -/
import Derived.Test.YtfghlfolejpjjaaDrX
import Derived.Test.YtfghlfolejpjjaaRWords
import Derived.Deep.RegionHeld3
namespace Go.Proofs.Ytfghlfolejpjjaa
open Go.RowKit
set_option linter.unusedVariables false
set_option linter.unusedSimpArgs false
attribute [local go_sem] max2_int min2_int max_two min_two
namespace L05Acts
open Rfl Rcfi Rnor Rdl DrX
section
variable {S : Nat → Prop} {w0 w w' : World} {dd gf g bw be : Nat} {blocks ticks : Int} {s s' : Cf.Fl}
theorem erase_y (h : DrvAt S w0 w dd gf g bw be blocks ticks s) (hc : Cf.Calm s) (t0 : 0 ≤ ticks) (t1 : ticks ≤ 1000000000) {b e t : Int} (ha : -100000000000000 ≤ b) (ha' : b ≤ 100000000000000) (q : Hid (Cf.ew s b = (e, t, s'))) :
    Calls Try.prog 13 #[.pointer (some ⟨dd, 0, none⟩), .int .i64 b] w fun x w' => x = .returned (.int .i64 e) ∧ DrvAt (Sx S w w') w0 w' dd gf g bw be blocks (ticks + t) s' ∧ Keep (Mine S dd) w w' := by
  refine (Drv.erase_c h hc t0 t1 ha ha').mono ?_
  rintro x w' ⟨rfl, p, k⟩
  rw [q.out] at p ⊢
  exact ⟨rfl, p, k⟩
theorem lockOn_y (h : DrvAt S w0 w dd gf g bw be blocks ticks s) (hc : Cf.Calm s) {b e : Int} (ha : -100000000000000 ≤ b) (ha' : b ≤ 100000000000000) (q : Hid (Cf.lw s b true = (e, s'))) :
    Calls Try.prog 18 #[.pointer (some ⟨dd, 0, none⟩), .int .i64 b, .bool true] w fun x w' => x = .returned (.int .i64 e) ∧ DrvAt (Sx S w w') w0 w' dd gf g bw be blocks ticks s' ∧ Keep (Mine S dd) w w' := by
  refine (Drv.lockOn h hc ha ha').mono ?_
  rintro x w' ⟨rfl, p, k⟩
  rw [q.out] at p ⊢
  exact ⟨rfl, p, k⟩
theorem lockOff_y (h : DrvAt S w0 w dd gf g bw be blocks ticks s) (hc : Cf.Calm s) {b e : Int} (ha : -100000000000000 ≤ b) (ha' : b ≤ 100000000000000) (q : Hid (Cf.lw s b false = (e, s'))) :
    Calls Try.prog 18 #[.pointer (some ⟨dd, 0, none⟩), .int .i64 b, .bool false] w fun x w' => x = .returned (.int .i64 e) ∧ DrvAt (Sx S w w') w0 w' dd gf g bw be blocks ticks s' ∧ Keep (Mine S dd) w w' := by
  refine (Drv.lockOff h hc ha ha').mono ?_
  rintro x w' ⟨rfl, p, k⟩
  rw [q.out] at p ⊢
  exact ⟨rfl, p, k⟩
theorem program_y (h : DrvAt S w0 w dd gf g bw be blocks ticks s) (hc : Cf.Calm s) (t0 : 0 ≤ ticks) (t1 : ticks ≤ 900000000) {at_ e t : Int} (ha : -10000000000000 ≤ at_) (ha' : at_ ≤ 10000000000000) {zs : List Int} {a : Option Addr} {cap b off : Nat} (hlen : zs.length ≤ 64)
    (hz : Hid (∀ i : Nat, 0 ≤ zs.getD i 0 ∧ zs.getD i 0 < 4294967296)) (hA : ∀ i, i < zs.length → a = some ⟨b, off, none⟩) (hcell : Hid (∀ i, i < zs.length → w0.cell? ⟨b, off + i, none⟩ = some (.int .u32 (zs.getD i 0)))) (q : Hid (Cf.pws s at_ zs = (e, t, s'))) :
    Calls Try.prog 11 #[.pointer (some ⟨dd, 0, none⟩), .int .i64 at_, .slice a zs.length cap] w fun x w' => x = .returned (.int .i64 e) ∧ DrvAt (Sx S w w') w0 w' dd gf g bw be blocks (ticks + t) s' ∧ Keep (Mine S dd) w w' := by
  by_cases hl : zs.length = 0
  · have nb : ¬ Mine S dd (w.heap.size) := Drv.fresh_not h (Nat.le_refl _)
    refine (Drv.program_c (zs := zs) (b := w.heap.size) (off := off) h hc t0 t1 ha ha' hlen hz (fun i hi => absurd hi (by omega)) (fun i hi => absurd hi (by omega)) nb).mono ?_
    rintro x w' ⟨rfl, p, k⟩
    rw [q.out] at p ⊢
    exact ⟨rfl, p, k⟩
  · have hb0 : b < w0.heap.size := World.block_lt_of_cell? _ _ (hcell.out 0 (by omega))
    have nb : ¬ Mine S dd b := fun e => e.elim (fun e => by have := h.fl.lo b e; omega) (fun e => by have := h.ld; omega)
    refine (Drv.program_c (zs := zs) (b := b) (off := off) h hc t0 t1 ha ha' hlen hz hA (fun i hi => Sl.below_cell h.fl.own.below (hcell.out i hi)) nb).mono ?_
    rintro x w' ⟨rfl, p, k⟩
    rw [q.out] at p ⊢
    exact ⟨rfl, p, k⟩
end
theorem HalfD.next {S : Nat → Prop} {w0 w w' : World} {N dd gf g bw be ra ka rb kb : Nat} {T T' : Int} {s s' : Cf.Fl} {Z : Array Value} (h : HalfD S w0 w N dd gf g bw be ra ka rb kb T T' s s') (hk : Keep (fun k => k = w.heap.size) (w.alloc (.cells Z 64)) w') : HalfD S w0 w' N dd gf g bw be ra ka rb kb T T' s s' :=
  h.below (below_row (below_al w _) hk (Nat.le_refl _))
theorem lw_c (s : Cf.Fl) (b : Int) (on : Bool) : (Cf.lw s b on).2.c = s.c := by
  unfold Cf.lw
  split <;> rfl
set_option maxHeartbeats 80000000 in
set_option maxRecDepth 100000 in
theorem DriverActs_c (a0 : Int) (a1 : Option Addr) (len1 cap1 : Nat) (w : World) (w0 : (Lit.int .u8 a0).wf = true) (s1 : Sh.ok w (.slice 4 (.agg 4 [(0, 1, .int .u8), (1, 1, .int .i64), (2, 1, .int .i64), (3, 1, .slice 1 (.int .u32))])) [.slice a1 len1 cap1]) :
    Calls Try.prog 8 #[.int .u8 a0, .slice a1 len1 cap1] w fun e w' => e = .returned (.bool true) ∧ Below w.heap.size w w' := by
  obtain ⟨xs, b, off, hcap, hmax, hx, ha, hcell⟩ := acts5_of s1
  have r0 := wf_u8 w0
  have HM : Hid ((len1 : Int) ≤ 9223372036854775807) := Lib.hid (by have e : maxLen = 9223372036854775807 := by decide +kernel
                                                                    omega)
  have HX := Lib.hid hx
  have HC := Lib.hid hcell
  have HA := Lib.hid ha
  clear s1 w0 hcap hmax hx ha hcell
  by_cases hH : ¬ Hv.Light len1 xs
  · have HH := Lib.hid hH
    clear hH
    go_enter Try.func8, Try.ntmps8
    go_wp2_with (first | (go_at_call 9; refine (Drv.alive_c _).mono ?_; rintro e w1 ⟨rfl, b1⟩) | (go_at_call 24; refine (Hv.heavy_yes HM HX HA.out HC HH b1).mono ?_; rintro e w2 ⟨rfl, b2⟩; replace b2 := Below.then b1 b2))
    go_ret
    exact ⟨rfl, b2⟩
  · replace hH : Hv.Light len1 xs := Classical.not_not.1 hH
    have HH := Lib.hid hH
    have hl50 : len1 ≤ 50 := hH.1
    clear hH
    obtain ⟨en, he, e1, e2⟩ : ∃ en : Int, Hid (a0 % 5 = en) ∧ 0 ≤ en ∧ en ≤ 4 := ⟨a0 % 5, Lib.hid rfl, by omega, by omega⟩
    obtain ⟨c0, H0⟩ : ∃ c, Hid (Nr.new 3 en = c) := ⟨_, Lib.hid rfl⟩
    go_enter Try.func8, Try.ntmps8
    go_upto_region 10 with (first | (go_at_call 9; refine (Drv.alive_c _).mono ?_; rintro e w1 ⟨rfl, b1⟩) | (go_at_call 24; refine (Hv.heavy_no HM HX HA.out HC HH b1).mono ?_; rintro e w1a ⟨rfl, b1a⟩; have b1' := Below.then b1 b1a; clear b1 b1a) | (go_at_call 20; rw [he.out]; refine (Cfi.begin_c b1' (n := 3) (endure := en) (by decide) (by decide) e1 (Lib.hid (by omega)) H0).mono ?_; rintro e w2a ⟨g, bw, be, gf, rfl, F2⟩) | (go_at_call 21; refine (Drv.new_c F2 (n := 3) (by decide) (by decide)).mono ?_; rintro e w2 ⟨dd, rfl, S, D2⟩; clear F2) | (go_at_call 25; rw [he.out]; refine (Rnor.new_c (n := 3) (endure := en) (by decide) (by decide) e1 (Lib.hid (by omega)) H0).mono ?_; simp only [Rnor.rv_eq]; rintro e w3 ⟨rw0, rkw0, re0, rke0, rfl, h2, h3, h4, h5⟩) | (refine build_f (bw := rw0) (kw := rkw0) (be := re0) (ke := rke0) (c := c0) rfl _ rfl rfl ?_) | (refine build_d (bw := rw0) (kw := rkw0) (be := re0) (ke := rke0) (c := c0) rfl _ rfl rfl ?_) | (refine store_d rfl _ _ rfl rfl rfl (heap_alloc_new w3 _) zero78 ?_; intro w4 hb4 hk4 hs4))
    have P0 := start_pair D2 h2 h3 h4 h5 hb4 hk4
    clear hb4 hk4 hs4 h2 h3 h4 h5 b1' D2
    generalize w3.heap.size = N at *
    go_wp2
    go_loopw [41] (fun i wr => ∃ (S : Nat → Prop) (j ra rka rb rkb : Nat) (T : Int) (s : Cf.Fl), j ≤ len1 ∧ i = .int .i64 j ∧ PairD S w wr N dd gf g bw be ra rka rb rkb T s ∧ 0 ≤ T ∧ T ≤ 30 * j) (fun i _ => len1 - (intOf i).toNat)
    case atStart => exact ⟨S, 0, rw0, rkw0, re0, rke0, 0, Cf.new c0, Nat.zero_le _, rfl, P0, Int.le_refl _, by decide⟩
    case round =>
      clear P0
      obtain ⟨S, j, rw_, rkw, re, rke, T, s, hj, rfl, hI, T0, T1⟩ := hrel
      by_cases hlt : ¬ j < len1
      · have hlt2 : (len1 : Int) ≤ (j : Int) := by omega
        go_wp2
        go_ret
        exact ⟨rfl, hI.dr.fl.own.below⟩
      replace hlt : j < len1 := by omega
      obtain rfl := HA.out j hlt
      obtain ⟨q0, q1, q2, q3⟩ := HC.out j hlt
      have ho := HX.out j
      have hll := HH.out.2 j hlt
      replace q0 := Sl.below_cell hI.dr.fl.own.below q0
      replace q1 := Sl.below_cell hI.dr.fl.own.below q1
      replace q2 := Sl.below_cell hI.dr.fl.own.below q2
      replace q3 := Sl.below_cell hI.dr.fl.own.below q3
      have hlt2 : (j : Int) < (len1 : Int) := by omega
      have hj50 : (j : Int) ≤ 50 := by omega
      have T2 : T ≤ 1500 := by omega
      generalize xs j = x at *
      obtain ⟨kk, tt, mm, wa, wl, wc, ws⟩ := x
      dsimp only at *
      have hk := ho.k0
      have HMM := Lib.hid ho.m0
      have HTT := Lib.hid ho.t0
      have HR := Lib.hid ho.rng
      have hwl : ws.length = wl := ho.len
      obtain ⟨b2, off2, A2, C2⟩ := ho.at_
      have HLL := Lib.hid hll
      have hl10 := hll.1
      dsimp only at hk HMM HTT HR A2 C2 hl10
      subst hwl
      have HA2 := Lib.hid A2
      have HC2 := Lib.hid C2
      have hbl : Hid (-1099511627776 ≤ tt ∧ tt ≤ 1099511627776) := Lib.hid hll.2
      clear ho hll HLL A2 C2
      have NA : Bx (wr.alloc (.cells #[.int .u8 kk, .int .i64 tt, .int .i64 mm, .slice wa ws.length wc] 66)) wr.heap.size kk tt mm wa ws.length wc := heap_alloc_new wr _
      have hP := hI.below (below_al wr (.cells #[.int .u8 kk, .int .i64 tt, .int .i64 mm, .slice wa ws.length wc] 66))
      have nA : ¬ Mine S dd wr.heap.size := Drv.fresh_not hI.dr (Nat.le_refl _)
      go_upto_region 13 with (fail)
      generalize wr.heap.size = A at *
      generalize wr.alloc (.cells #[.int .u8 kk, .int .i64 tt, .int .i64 mm, .slice wa ws.length wc] 66) = W at *
      clear q0 q1 q2 q3 hI
      obtain ⟨y0, y1, y2, y3⟩ := NA.cells
      go_upto_region 14 with (fail)
      rename_i K37 hK37 K14 hK14
      have hEnd : ∀ {S : Nat → Prop} {ra ka rb kb : Nat} {T : Int} {s : Cf.Fl} {e : Int} {W : World} {v4 v10 v13 v14 v15 v16 v17 v42 v43 v44 v45 v46 v47 v48 v49 v50 v51 v52 v53 v54 v55 v56 v57 v58 v59 v60 v61 v62 v63 v64 v65 v66 v67 v68 v69 v70 v71 v72 v73 v74 v75 v76 v77 v78 v79 v80 v81 v82 v83 v84 v85 v86 v87 v88 v89 v90 v91 v92 v93 v94 v95 v96 v97 v98 v99 v100 v101 v102 v103 v104 v105 v106 v107 v108 v109 v110 v111 v112 v113 v114 v115 v116 v117 v118 v119 v120 v121 v122 v123 v124 v125 v126 v127 v128 v129 v130 v131 v132 v133 v134 v135 v136 v137 v138 v139 v140 v141 v142 v143 v144 v145 v146 v147 v148 v149 v150 v151 v152 v153 v154 v155 v156 v157 v158 v159 v160 v161 v162 v163 v164 v165 v166 v167 v168 v169 v170 v171 v172 v173 v174 v175 v176 v177 v178 v179 : Value}, PairD S w W N dd gf g bw be ra ka rb kb T s → 0 ≤ T → T ≤ 30 * ((j : Int) + 1) → K37 { tmps := #[.int .u8 a0, .slice (some ⟨b, off, none⟩) len1 cap1, undef, undef, v4, .pointer (some ⟨g, 0, none⟩), .pointer (some ⟨gf, 0, none⟩), .pointer (some ⟨dd, 0, none⟩), .pointer (some ⟨N, 0, none⟩), undef, v10, .int .i64 e, .int .i64 e, v13, v14, v15, v16, v17, .bool true, .bool false, .slice (some ⟨b, off, none⟩) len1 cap1, .bool false, .tuple #[.pointer (some ⟨g, 0, none⟩), .pointer (some ⟨gf, 0, none⟩)], .int .u8 a0, .int .u8 en, .int .i64 en, .tuple #[.pointer (some ⟨g, 0, none⟩), .pointer (some ⟨gf, 0, none⟩)], .pointer (some ⟨g, 0, none⟩), .pointer (some ⟨gf, 0, none⟩), .pointer (some ⟨gf, 0, none⟩), .bool false, .pointer (some ⟨gf, 0, none⟩), .pointer (some ⟨dd, 0, none⟩), .int .u8 a0, .int .u8 en, .int .i64 en, .agg #[.slice (some ⟨rw0, 0, none⟩) c0.words.length rkw0, .slice (some ⟨re0, 0, none⟩) c0.wear.length rke0, .int .i64 c0.endure, .int .i64 c0.fuse, .int .u32 c0.pick, .bool c0.off], .agg (fa rw0 rkw0 re0 rke0 (fresh c0)), .agg (da rw0 rkw0 re0 rke0 (fresh c0) 0), .slice (some ⟨b, off, none⟩) len1 cap1, .int .i64 (len1 : Int), .int .i64 (j : Int), v42, v43, v44, v45, v46, v47, v48, v49, v50, v51, v52, v53, v54, v55, v56, v57, v58, v59, v60, v61, v62, v63, v64, v65, v66, v67, v68, v69, v70, v71, v72, v73, v74, v75, v76, v77, v78, v79, v80, v81, v82, v83, v84, v85, v86, v87, v88, v89, v90, v91, v92, v93, v94, v95, v96, v97, v98, v99, v100, v101, v102, v103, v104, v105, v106, v107, v108, v109, v110, v111, v112, v113, v114, v115, v116, v117, v118, v119, v120, v121, v122, v123, v124, v125, v126, v127, v128, v129, v130, v131, v132, v133, v134, v135, v136, v137, v138, v139, v140, v141, v142, v143, v144, v145, v146, v147, v148, v149, v150, v151, v152, v153, v154, v155, v156, v157, v158, v159, v160, v161, v162, v163, v164, v165, v166, v167, v168, v169, v170, v171, v172, v173, v174, v175, v176, v177, v178, v179], defers := [] } W := by
        intro S ra ka rb kb T s e W v4 v10 v13 v14 v15 v16 v17 v42 v43 v44 v45 v46 v47 v48 v49 v50 v51 v52 v53 v54 v55 v56 v57 v58 v59 v60 v61 v62 v63 v64 v65 v66 v67 v68 v69 v70 v71 v72 v73 v74 v75 v76 v77 v78 v79 v80 v81 v82 v83 v84 v85 v86 v87 v88 v89 v90 v91 v92 v93 v94 v95 v96 v97 v98 v99 v100 v101 v102 v103 v104 v105 v106 v107 v108 v109 v110 v111 v112 v113 v114 v115 v116 v117 v118 v119 v120 v121 v122 v123 v124 v125 v126 v127 v128 v129 v130 v131 v132 v133 v134 v135 v136 v137 v138 v139 v140 v141 v142 v143 v144 v145 v146 v147 v148 v149 v150 v151 v152 v153 v154 v155 v156 v157 v158 v159 v160 v161 v162 v163 v164 v165 v166 v167 v168 v169 v170 v171 v172 v173 v174 v175 v176 v177 v178 v179 P T0 T1
        refine hK37 _ _ ?_
        clear hK37 hP NA nA
        go_wp2
        (try clear y0 y1 y2 y3)
        have PD := P.below (Rnor.drew_below (Below.refl _ _))
        have xt := PD.box.tick
        have x0 := (chip_cells PD.box).1
        have hsz : s.c.words.length ≤ 4096 := by have := PD.ref.ok.size; have := PD.ref.ok.most; omega
        refine wp_region_noPanic ?_
        refine wp_region_held_drew (S := fun W => W.cell? ⟨N, 77, none⟩ = some (.int .i64 (T)) ∧ W.cell? ⟨N, 0, none⟩ = some (.slice (some ⟨ra, 0, none⟩) s.c.words.length ka)) (by kernel_rfl) ?_ (fun hHeld => ?_)
        · exact ⟨xt, x0⟩
        refine wpAnyH_take (i := 0) (v := ?_) rfl (by kernel_rfl) (by kernel_rfl) (by kernel_rfl) (fun _ _ _ h => h) (Or.inl ⟨by kernel_rfl, ?_⟩) (by assumption) ?_
        rotate_left
        · ((intro w hSw; (try dsimp only at hSw); go_simp) <;> with_reducible rfl)
        (try simp only [Act.put, List.setIfInBounds_toArray, List.set_cons_zero, List.set_cons_succ])
        refine wpAnyH_take (i := 1) (v := ?_) rfl (by kernel_rfl) (by kernel_rfl) (by kernel_rfl) (fun _ _ _ h => h) (Or.inl ⟨by kernel_rfl, ?_⟩) (by assumption) ?_
        rotate_left
        · ((intro w hSw; (try dsimp only at hSw); go_simp) <;> with_reducible rfl)
        (try simp only [Act.put, List.setIfInBounds_toArray, List.set_cons_zero, List.set_cons_succ])
        refine wpAnyH_take (i := 2) (v := ?_) rfl (by kernel_rfl) (by kernel_rfl) (by kernel_rfl) (fun _ _ _ h => h) (Or.inl ⟨by kernel_rfl, ?_⟩) (by assumption) ?_
        rotate_left
        · ((intro w hSw; (try dsimp only at hSw); go_simp) <;> with_reducible rfl)
        (try simp only [Act.put, List.setIfInBounds_toArray, List.set_cons_zero, List.set_cons_succ])
        refine wpAnyH_take (i := 3) (v := ?_) rfl (by kernel_rfl) (by kernel_rfl) (by kernel_rfl) (fun _ _ _ h => h) (Or.inl ⟨by kernel_rfl, ?_⟩) (by assumption) ?_
        rotate_left
        · ((intro w hSw; (try dsimp only at hSw); go_simp) <;> with_reducible rfl)
        (try simp only [Act.put, List.setIfInBounds_toArray, List.set_cons_zero, List.set_cons_succ])
        refine wpAnyH_take (i := 4) (v := ?_) rfl (by kernel_rfl) (by kernel_rfl) (by kernel_rfl) (fun _ _ _ h => h) (Or.inl ⟨by kernel_rfl, ?_⟩) (by assumption) ?_
        rotate_left
        · ((intro w hSw; (try dsimp only at hSw); go_simp) <;> with_reducible rfl)
        (try simp only [Act.put, List.setIfInBounds_toArray, List.set_cons_zero, List.set_cons_succ])
        refine wpAnyH_take (i := 6) (v := ?_) rfl (by kernel_rfl) (by kernel_rfl) (by kernel_rfl) (fun _ _ _ h => h) (Or.inl ⟨by kernel_rfl, ?_⟩) (by assumption) ?_
        rotate_left
        · ((intro w hSw; (try dsimp only at hSw); go_simp) <;> with_reducible rfl)
        (try simp only [Act.put, List.setIfInBounds_toArray, List.set_cons_zero, List.set_cons_succ])
        refine wpAnyH_take (i := 7) (v := ?_) rfl (by kernel_rfl) (by kernel_rfl) (by kernel_rfl) (fun _ _ _ h => h) (Or.inl ⟨by kernel_rfl, ?_⟩) (by assumption) ?_
        rotate_left
        · ((intro w hSw; (try dsimp only at hSw); go_simp) <;> with_reducible rfl)
        (try simp only [Act.put, List.setIfInBounds_toArray, List.set_cons_zero, List.set_cons_succ])
        refine wpAnyH_ready (rs := [5]) (by kernel_rfl) (by simp) ?_
        refine AllReadyH.cons rfl (fun K hK => ?_) AllReadyH.nil
        go_simp
        (go_at_call 12; refine (Drv.ticks_c PD.dr).mono ?_; rintro x w5 ⟨rfl, rfl⟩)
        clear hHeld
        refine hK.out _ _ ?_ (fun hHeld => ?_)
        · exact ⟨xt, x0⟩
        clear hK K
        (try simp only [Act.put, List.setIfInBounds_toArray, List.set_cons_zero, List.set_cons_succ])
        refine wpAnyH_take (i := 8) (v := ?_) rfl (by kernel_rfl) (by kernel_rfl) (by kernel_rfl) (fun _ _ _ h => h) (Or.inl ⟨by kernel_rfl, ?_⟩) (by assumption) ?_
        rotate_left
        · ((intro w hSw; (try dsimp only at hSw); go_simp) <;> with_reducible rfl)
        (try simp only [Act.put, List.setIfInBounds_toArray, List.set_cons_zero, List.set_cons_succ])
        refine wpAnyH_take (i := 9) (v := ?_) rfl (by kernel_rfl) (by kernel_rfl) (by kernel_rfl) (fun _ _ _ h => h) (Or.inl ⟨by kernel_rfl, ?_⟩) (by assumption) ?_
        rotate_left
        · ((intro w hSw; (try dsimp only at hSw); go_simp) <;> with_reducible rfl)
        (try simp only [Act.put, List.setIfInBounds_toArray, List.set_cons_zero, List.set_cons_succ])
        refine wpAnyH_take (i := 10) (v := ?_) rfl (by kernel_rfl) (by kernel_rfl) (by kernel_rfl) (fun _ _ _ h => h) (Or.inl ⟨by kernel_rfl, ?_⟩) (by assumption) ?_
        rotate_left
        · ((intro w hSw; (try dsimp only at hSw); go_simp) <;> with_reducible rfl)
        (try simp only [Act.put, List.setIfInBounds_toArray, List.set_cons_zero, List.set_cons_succ])
        refine wpAnyH_take (i := 11) (v := ?_) rfl (by kernel_rfl) (by kernel_rfl) (by kernel_rfl) (fun _ _ _ h => h) (Or.inl ⟨by kernel_rfl, ?_⟩) (by assumption) ?_
        rotate_left
        · ((intro w hSw; (try dsimp only at hSw); go_simp) <;> with_reducible rfl)
        (try simp only [Act.put, List.setIfInBounds_toArray, List.set_cons_zero, List.set_cons_succ])
        refine wpAnyH_take (i := 13) (v := ?_) rfl (by kernel_rfl) (by kernel_rfl) (by kernel_rfl) (fun _ _ _ h => h) (Or.inl ⟨by kernel_rfl, ?_⟩) (by assumption) ?_
        rotate_left
        · ((intro w hSw; (try dsimp only at hSw); go_simp) <;> with_reducible rfl)
        (try simp only [Act.put, List.setIfInBounds_toArray, List.set_cons_zero, List.set_cons_succ])
        refine wpAnyH_take (i := 14) (v := ?_) rfl (by kernel_rfl) (by kernel_rfl) (by kernel_rfl) (fun _ _ _ h => h) (Or.inl ⟨by kernel_rfl, ?_⟩) (by assumption) ?_
        rotate_left
        · ((intro w hSw; (try dsimp only at hSw); go_simp) <;> with_reducible rfl)
        (try simp only [Act.put, List.setIfInBounds_toArray, List.set_cons_zero, List.set_cons_succ])
        refine wpAnyH_take (i := 15) (v := ?_) rfl (by kernel_rfl) (by kernel_rfl) (by kernel_rfl) (fun _ _ _ h => h) (Or.inl ⟨by kernel_rfl, ?_⟩) (by assumption) ?_
        rotate_left
        · ((intro w hSw; (try dsimp only at hSw); go_simp) <;> with_reducible rfl)
        (try simp only [Act.put, List.setIfInBounds_toArray, List.set_cons_zero, List.set_cons_succ])
        refine wpAnyH_take (i := 16) (v := ?_) rfl (by kernel_rfl) (by kernel_rfl) (by kernel_rfl) (fun _ _ _ h => h) (Or.inl ⟨by kernel_rfl, ?_⟩) (by assumption) ?_
        rotate_left
        · ((intro w hSw; (try dsimp only at hSw); go_simp) <;> with_reducible rfl)
        (try simp only [Act.put, List.setIfInBounds_toArray, List.set_cons_zero, List.set_cons_succ])
        refine wpAnyH_ready (rs := [12]) (by kernel_rfl) (by simp) ?_
        refine AllReadyH.cons rfl (fun K hK => ?_) AllReadyH.nil
        go_simp
        (go_at_call 15; refine (Nor.words_o PD.dr.fl.own (zs := s.c.words) (Lib.hid rfl)).mono ?_; rintro x w6 ⟨r1, k1, rfl, p1, p2, p3, p4, p5⟩; replace PD := PD.below p5; replace xt := PD.box.tick; replace x0 := (chip_cells PD.box).1; clear p4 p5)
        clear hHeld
        refine hK.out _ _ ?_ (fun hHeld => ?_)
        · exact ⟨xt, x0⟩
        clear hK K
        (try simp only [Act.put, List.setIfInBounds_toArray, List.set_cons_zero, List.set_cons_succ])
        refine wpAnyH_ready (rs := [17]) (by kernel_rfl) (by simp) ?_
        refine AllReadyH.cons rfl (fun K hK => ?_) AllReadyH.nil
        go_simp
        (go_at_call 17; refine (Rnor.words_same (zs := s.c.words) p3 PD.ref.words hsz).mono ?_; rintro x w7 ⟨rfl, b7⟩; replace PD := PD.below b7; replace xt := PD.box.tick; replace x0 := (chip_cells PD.box).1; clear b7)
        clear hHeld
        refine hK.out _ _ ?_ (fun hHeld => ?_)
        · exact ⟨xt, x0⟩
        clear hK K
        (try simp only [Act.put, List.setIfInBounds_toArray, List.set_cons_zero, List.set_cons_succ])
        refine wpAnyH_take (i := 18) (v := ?_) rfl (by kernel_rfl) (by kernel_rfl) (by kernel_rfl) (fun _ _ _ h => h) (Or.inl ⟨by kernel_rfl, ?_⟩) (by assumption) ?_
        rotate_left
        · ((intro w hSw; (try dsimp only at hSw); go_simp) <;> with_reducible rfl)
        (try simp only [Act.put, List.setIfInBounds_toArray, List.set_cons_zero, List.set_cons_succ])
        refine wpAnyH_take (i := 19) (v := ?_) rfl (by kernel_rfl) (by kernel_rfl) (by kernel_rfl) (fun _ _ _ h => h) (Or.inl ⟨by kernel_rfl, ?_⟩) (by assumption) ?_
        rotate_left
        · ((intro w hSw; (try dsimp only at hSw); go_simp) <;> with_reducible rfl)
        (try simp only [Act.put, List.setIfInBounds_toArray, List.set_cons_zero, List.set_cons_succ])
        refine wpAnyH_done (by kernel_rfl) ?_ _
        refine NoPanic.normal ?_
        clear xt x0 hHeld
        go_wp2
        go_roundw
        case rel => exact ⟨_, j + 1, ra, ka, rb, kb, T, s, by omega, by go_num, PD, by omega, by omega⟩
        case measure => simp [intOf]; omega
      clear hK37
      by_cases e3 : kk % 8 = 3
      · obtain ⟨⟨e, k, s'⟩, q⟩ : ∃ p, Hid (Cf.ew s tt = p) := ⟨_, Lib.hid rfl⟩
        have hcalm : Cf.Calm s' := by have := Cf.ew_calm hP.calm tt; rw [q.out] at this; exact this
        have htk : 0 ≤ k ∧ k ≤ 20 := by have := ew_ticks s tt; rw [q.out] at this; exact this
        go_wp2_with (first | (go_at_call 13; refine (erase_y hP.dr hP.calm T0 (by omega) (by have := hbl.out; omega) (by have := hbl.out; omega) q).mono ?_; rintro x w2 ⟨rfl, D2, K2⟩; have H2 := hP.turn D2 (fun k e => e) K2; have N2 := NA.keep K2 nA; clear D2 K2 hP; clear y0 y1 y2 y3; obtain ⟨y0, y1, y2, y3⟩ := N2.cells) | (refine load_d rfl _ rfl rfl H2.box ?_) | (go_at_call 26; refine (Rdl.erase_x H2.ref H2.calm H2.ok T0 (by omega) (by have := hbl.out; omega) (by have := hbl.out; omega) q).mono ?_; rintro x w3 ⟨ra, ka, rb, kb, rfl, hp3⟩; have B3 := H2.box.below hp3.below) | (refine store_d rfl _ _ rfl rfl rfl B3 (da_size _ _ _ _ _ _) ?_; intro w4 hb4 hk4 hs4; clear hs4; have P := H2.laid hcalm hp3 hb4 hk4))
        clear e3 hk
        exact hEnd P (by omega) (by omega)
      have f3 : (kk % 8 == 3) = false := by simpa using e3
      clear e3
      by_cases e4 : kk % 8 = 4
      · have hcalm := hP.calm
        by_cases hm : mm < 0 ∨ (0 ≤ mm ∧ 64 < mm)
        · go_wp2_with (first | (go_at_call 16; refine (Drv.read_arg hP.dr hm HMM.out).mono ?_; rintro x w2 ⟨rfl, rfl⟩; have H2 := hP.turn (S' := S) hP.dr (fun k e => .inl e) (Keep.refl _ _); have N2 := NA; clear hP; clear y0 y1 y2 y3; obtain ⟨y0, y1, y2, y3⟩ := N2.cells) | (refine load_d rfl _ rfl rfl H2.box ?_) | (go_at_call 27; refine (Rdl.read_arg hm HMM.out).mono ?_; rintro x w3 ⟨rfl, b3⟩; have H3 := H2.below b3; have HZ := heap_alloc_new w3 (.cells Try.zeroCells64 64); clear H2) | (refine store_d rfl _ _ rfl rfl rfl HZ zero78 ?_; intro w4 hb4 hk4 hs4; have H4 := HalfD.next H3 hk4; have b4 := below_row (below_al w3 (.cells Try.zeroCells64 64)) hk4 (Nat.le_refl _); clear hs4 HZ H3 hk4) | (refine load_d rfl _ rfl rfl hb4 ?_) | (refine store_d rfl _ _ rfl rfl rfl H4.box (da_size _ _ _ _ _ _) ?_; intro w5 hb5 hk5 hs5; clear hs5; have P5 := H4.laid hcalm (same_post H4.ref rfl (Below.refl _ _)) hb5 hk5; clear H4 hb5 hk5 hb4) | (go_at_call 17; refine (Ref1.words_same (zs := []) (b1 := 0) (o1 := 0) (b2 := 0) (o2 := 0) (fun _ hi => absurd hi (Nat.not_lt_zero _)) (fun _ hi => absurd hi (Nat.not_lt_zero _)) (by decide) (fun i hi => absurd hi (Nat.not_lt_zero _)) (fun i hi => absurd hi (Nat.not_lt_zero _))).mono ?_; rintro x w6 ⟨rfl, b6⟩; have P := P5.below b6; clear P5 b6))
          clear f3 e4 hk
          exact hEnd P (by omega) (by omega)
        by_cases hm0 : mm = 0
        · subst hm0
          go_wp2_with (first | (go_at_call 16; refine (Drv.read_0 hP.dr tt).mono ?_; rintro x w2 ⟨rfl, rfl⟩; have H2 := hP.turn (S' := S) hP.dr (fun k e => .inl e) (Keep.refl _ _); have N2 := NA; clear hP; clear y0 y1 y2 y3; obtain ⟨y0, y1, y2, y3⟩ := N2.cells) | (refine load_d rfl _ rfl rfl H2.box ?_) | (go_at_call 27; refine (Rdl.read_zero).mono ?_; rintro x w3 ⟨rfl, b3⟩; have H3 := H2.below b3; have HZ := heap_alloc_new w3 (.cells Try.zeroCells64 64); clear H2) | (refine store_d rfl _ _ rfl rfl rfl HZ zero78 ?_; intro w4 hb4 hk4 hs4; have H4 := HalfD.next H3 hk4; have b4 := below_row (below_al w3 (.cells Try.zeroCells64 64)) hk4 (Nat.le_refl _); clear hs4 HZ H3 hk4) | (refine load_d rfl _ rfl rfl hb4 ?_) | (refine store_d rfl _ _ rfl rfl rfl H4.box (da_size _ _ _ _ _ _) ?_; intro w5 hb5 hk5 hs5; clear hs5; have P5 := H4.laid hcalm (same_post H4.ref rfl (Below.refl _ _)) hb5 hk5; clear H4 hb5 hk5 hb4) | (go_at_call 17; refine (Ref1.words_same (zs := []) (b1 := 0) (o1 := 0) (b2 := 0) (o2 := 0) (fun _ hi => absurd hi (Nat.not_lt_zero _)) (fun _ hi => absurd hi (Nat.not_lt_zero _)) (by decide) (fun i hi => absurd hi (Nat.not_lt_zero _)) (fun i hi => absurd hi (Nat.not_lt_zero _))).mono ?_; rintro x w6 ⟨rfl, b6⟩; have P := P5.below b6; clear P5 b6))
          clear f3 e4 hk
          exact hEnd P (by omega) (by omega)
        obtain ⟨n, rfl⟩ : ∃ n : Nat, mm = n := ⟨mm.toNat, by omega⟩
        have n1 : 1 ≤ n := by omega
        have n2 : n ≤ 64 := by omega
        have htb : -10000000000000 ≤ tt ∧ tt ≤ 10000000000000 := by have := hbl.out; omega
        have HTB := Lib.hid htb
        clear hm hm0
        rcases read_split hP.calm tt n with ⟨e5, he5, hw, hwr⟩ | ⟨hwr, m, zs, v5, f5, hmn, hzl, qr, qe⟩
        · clear htb
          go_wp2_with (first | (go_at_call 16; refine (Drv.read_bad hP.dr n1 n2 (Lib.hid hw) he5).mono ?_; rintro x w2 ⟨rfl, D2, K2⟩; have H2 := hP.turn D2 (fun k e => e) K2; have N2 := NA.keep K2 nA; clear D2 K2; clear hP; clear y0 y1 y2 y3; obtain ⟨y0, y1, y2, y3⟩ := N2.cells) | (refine load_d rfl _ rfl rfl H2.box ?_) | (go_at_call 27; refine (Rdl.read_off H2.ref.ok H2.ok H2.calm.eo n1 n2 he5 (Lib.hid hwr)).mono ?_; rintro x w3 ⟨rfl, b3⟩; have H3 := H2.below b3; have HZ := heap_alloc_new w3 (.cells Try.zeroCells64 64); clear H2) | (refine store_d rfl _ _ rfl rfl rfl HZ zero78 ?_; intro w4 hb4 hk4 hs4; have H4 := HalfD.next H3 hk4; have b4 := below_row (below_al w3 (.cells Try.zeroCells64 64)) hk4 (Nat.le_refl _); clear hs4 HZ H3 hk4) | (refine load_d rfl _ rfl rfl hb4 ?_) | (refine store_d rfl _ _ rfl rfl rfl H4.box (da_size _ _ _ _ _ _) ?_; intro w5 hb5 hk5 hs5; clear hs5; have P5 := H4.laid hcalm (same_post H4.ref rfl (Below.refl _ _)) hb5 hk5; clear H4 hb5 hk5 hb4) | (go_at_call 17; refine (Ref1.words_same (zs := []) (b1 := 0) (o1 := 0) (b2 := 0) (o2 := 0) (fun _ hi => absurd hi (Nat.not_lt_zero _)) (fun _ hi => absurd hi (Nat.not_lt_zero _)) (by decide) (fun i hi => absurd hi (Nat.not_lt_zero _)) (fun i hi => absurd hi (Nat.not_lt_zero _))).mono ?_; rintro x w6 ⟨rfl, b6⟩; have P := P5.below b6; clear P5 b6))
          clear f3 e4 hk
          exact hEnd P (by omega) (by omega)
        obtain ⟨s2, HS2a⟩ : ∃ s2 : Cf.Fl, s2 = { s with mode := 0 } := ⟨_, rfl⟩
        have HS2 : Hid (s2.c = s.c) := Lib.hid (by rw [HS2a])
        replace hcalm : Cf.Calm s2 := by rw [HS2a]; exact ⟨hcalm.job, hcalm.wait, hcalm.errs⟩
        rw [← HS2a] at hwr qr qe
        clear HS2a
        have qr := Lib.hid qr
        have qe := Lib.hid qe
        by_cases hmm : m < n
        · go_wp2_with (first | (go_at_call 16; refine (Drv.read_gen hP.dr n1 n2 HTB.out hmn hzl (Lib.hid hwr) qr qe).mono ?_; rintro x w2 ⟨⟨S2, D2, hS2, hor⟩, K2⟩; obtain rfl := hor.resolve_right (fun h => absurd h.1 (Nat.ne_of_lt hmm)) |>.2; have H2 := hP.turn D2 hS2 K2; have N2 := NA.keep K2 nA; clear D2 K2 hor hS2; clear hP; clear y0 y1 y2 y3; obtain ⟨y0, y1, y2, y3⟩ := N2.cells) | (refine load_d rfl _ rfl rfl H2.box ?_) | (go_at_call 27; refine (Rdl.read_on H2.ref H2.ok H2.calm.eo n1 n2 HTB.out hmn hzl (Lib.hid hwr) qr qe).mono ?_; rintro x w3 ⟨hor, b3⟩; obtain rfl := hor.resolve_right (fun h => absurd h.1 (Nat.ne_of_lt hmm)) |>.2; clear hor; have H3 := H2.below b3; have HZ := heap_alloc_new w3 (.cells Try.zeroCells64 64); clear H2) | (refine store_d rfl _ _ rfl rfl rfl HZ zero78 ?_; intro w4 hb4 hk4 hs4; have H4 := HalfD.next H3 hk4; have b4 := below_row (below_al w3 (.cells Try.zeroCells64 64)) hk4 (Nat.le_refl _); clear hs4 HZ H3 hk4) | (refine load_d rfl _ rfl rfl hb4 ?_) | (refine store_d rfl _ _ rfl rfl rfl H4.box (da_size _ _ _ _ _ _) ?_; intro w5 hb5 hk5 hs5; clear hs5; have P5 := H4.laid hcalm (same_post H4.ref HS2.out (Below.refl _ _)) hb5 hk5; clear H4 hb5 hk5 hb4) | (go_at_call 17; refine (Ref1.words_same (zs := []) (b1 := 0) (o1 := 0) (b2 := 0) (o2 := 0) (fun _ hi => absurd hi (Nat.not_lt_zero _)) (fun _ hi => absurd hi (Nat.not_lt_zero _)) (by decide) (fun i hi => absurd hi (Nat.not_lt_zero _)) (fun i hi => absurd hi (Nat.not_lt_zero _))).mono ?_; rintro x w6 ⟨rfl, b6⟩; have P := P5.below b6; clear P5 b6))
          clear f3 e4 hk
          exact hEnd P (by omega) (by omega)
        obtain rfl : m = n := by omega
        go_wp2_with (first | (go_at_call 16; refine (Drv.read_gen hP.dr n1 n2 HTB.out hmn hzl (Lib.hid hwr) qr qe).mono ?_; rintro x w2 ⟨⟨S2, D2, hS2, hor⟩, K2⟩; obtain ⟨-, r1, rfl, r1a, r1b, r1c⟩ := hor.resolve_left (fun h => absurd h.1 (Nat.lt_irrefl _)); have H2 := hP.turn D2 hS2 K2; have N2 := NA.keep K2 nA; have lN := hP.box.lt; clear D2 K2 hor hS2; clear hP; clear y0 y1 y2 y3; obtain ⟨y0, y1, y2, y3⟩ := N2.cells) | (refine load_d rfl _ rfl rfl H2.box ?_) | (go_at_call 27; refine (Rdl.read_on H2.ref H2.ok H2.calm.eo n1 n2 HTB.out hmn hzl (Lib.hid hwr) qr qe).mono ?_; rintro x w3 ⟨hor, b3⟩; obtain ⟨-, r2, c2, rfl, r2a, r2b⟩ := hor.resolve_left (fun h => absurd h.1 (Nat.lt_irrefl _)); replace r1b := r1b.below b3; have lN2 := H2.box.lt; clear hor; have H3 := H2.below b3; have HZ := heap_alloc_new w3 (.cells Try.zeroCells64 64); clear H2) | (refine store_d rfl _ _ rfl rfl rfl HZ zero78 ?_; intro w4 hb4 hk4 hs4; have H4 := HalfD.next H3 hk4; have b4 := below_row (below_al w3 (.cells Try.zeroCells64 64)) hk4 (Nat.le_refl _); clear hs4 HZ H3 hk4) | (refine load_d rfl _ rfl rfl hb4 ?_) | (refine store_d rfl _ _ rfl rfl rfl H4.box (da_size _ _ _ _ _ _) ?_; intro w5 hb5 hk5 hs5; clear hs5; have P5 := H4.laid hcalm (same_post H4.ref HS2.out (Below.refl _ _)) hb5 hk5; replace r1b := (r1b.below b4).keep hk5 (fun e => by omega); replace r2b := (r2b.below b4).keep hk5 (fun e => by omega); clear H4 hb5 hk5 hb4) | (go_at_call 17; subst hzl; refine (Rnor.words_same r1b r2b (by omega)).mono ?_; rintro x w6 ⟨rfl, b6⟩; have P := P5.below b6; clear P5 b6))
        clear f3 e4 hk
        exact hEnd P (by omega) (by omega)
      have f4 : (kk % 8 == 4) = false := by simpa using e4
      clear e4
      by_cases e5 : kk % 8 = 5
      · by_cases hpos : (0 : Int) < mm
        · have hdec : decide ((0 : Int) < mm) = true := by simpa using hpos
          obtain ⟨⟨e, s'⟩, q⟩ : ∃ p, Hid (Cf.lw s tt true = p) := ⟨_, Lib.hid rfl⟩
          have hcalm : Cf.Calm s' := by have := Cf.lw_calm hP.calm tt true; rw [q.out] at this; exact this
          have CC : Hid (s'.c = s.c) := Lib.hid (by have := lw_c s tt true; rw [q.out] at this; exact this)
          go_wp2_with (first | (go_at_call 18; (try rw [hdec]); refine (lockOn_y hP.dr hP.calm (by have := hbl.out; omega) (by have := hbl.out; omega) q).mono ?_; rintro x w2 ⟨rfl, D2, K2⟩; have H2 := hP.turn D2 (fun k e => e) K2; have N2 := NA.keep K2 nA; clear D2 K2 hP; clear y0 y1 y2 y3; obtain ⟨y0, y1, y2, y3⟩ := N2.cells) | (refine load_d rfl _ rfl rfl H2.box ?_) | (go_at_call 28; (try rw [hdec]); refine (Rdl.lockOn_x H2.ref.ok H2.calm H2.ok (by have := hbl.out; omega) (by have := hbl.out; omega) q).mono ?_; rintro x w3 ⟨rfl, b3⟩; have H3 := H2.below b3; clear b3 H2) | (refine store_d rfl _ _ rfl rfl rfl H3.box (da_size _ _ _ _ _ _) ?_; intro w4 hb4 hk4 hs4; clear hs4; have P := H3.laid hcalm (same_post H3.ref CC.out (Below.refl _ _)) hb4 hk4))
          clear f3 f4 e5 hk
          exact hEnd P (by omega) (by omega)
        have hdec : decide ((0 : Int) < mm) = false := by simp; omega
        have hneg : mm ≤ (0 : Int) := by omega
        clear hpos
        obtain ⟨⟨e, s'⟩, q⟩ : ∃ p, Hid (Cf.lw s tt false = p) := ⟨_, Lib.hid rfl⟩
        have hcalm : Cf.Calm s' := by have := Cf.lw_calm hP.calm tt false; rw [q.out] at this; exact this
        have CC : Hid (s'.c = s.c) := Lib.hid (by have := lw_c s tt false; rw [q.out] at this; exact this)
        go_wp2_with (first | (go_at_call 18; (try rw [hdec]); refine (lockOff_y hP.dr hP.calm (by have := hbl.out; omega) (by have := hbl.out; omega) q).mono ?_; rintro x w2 ⟨rfl, D2, K2⟩; have H2 := hP.turn D2 (fun k e => e) K2; have N2 := NA.keep K2 nA; clear D2 K2 hP; clear y0 y1 y2 y3; obtain ⟨y0, y1, y2, y3⟩ := N2.cells) | (refine load_d rfl _ rfl rfl H2.box ?_) | (go_at_call 28; (try rw [hdec]); refine (Rdl.lockOff_x H2.ref.ok H2.calm H2.ok (by have := hbl.out; omega) (by have := hbl.out; omega) q).mono ?_; rintro x w3 ⟨rfl, b3⟩; have H3 := H2.below b3; clear b3 H2) | (refine store_d rfl _ _ rfl rfl rfl H3.box (da_size _ _ _ _ _ _) ?_; intro w4 hb4 hk4 hs4; clear hs4; have P := H3.laid hcalm (same_post H3.ref CC.out (Below.refl _ _)) hb4 hk4))
        clear f3 f4 e5 hk
        exact hEnd P (by omega) (by omega)
      have f5 : (kk % 8 == 5) = false := by simpa using e5
      clear e5
      by_cases e6 : kk % 8 = 6
      · obtain ⟨vv, hvv⟩ : ∃ v, tt % 4294967296 = v := ⟨_, rfl⟩
        have hv : 0 ≤ vv ∧ vv < 4294967296 := by omega
        have HVV := Lib.hid hvv
        have HV := Lib.hid hv
        obtain ⟨c', q⟩ : ∃ p, Hid (Nr.fuse s.c mm vv = p) := ⟨_, Lib.hid rfl⟩
        have hcalm : Cf.Calm ({ s with c := c' } : Cf.Fl) := ⟨hP.calm.job, hP.calm.wait, hP.calm.errs⟩
        clear hvv hv
        go_wp2_with (first | (go_at_call 22; rw [HVV.out]; refine (Nor.fuse_k hP.dr.fl.own (Lib.hid HMM.out.2) HV.out.1 HV.out.2 q).mono ?_; rintro x w2 ⟨rfl, O2, K2⟩; have H2 := hP.chip O2 K2; have N2 := NA.keep K2 (fun d => nA (.inl (hP.dr.fl.three d))); clear O2 K2; clear y0 y1 y2 y3; obtain ⟨y0, y1, y2, y3⟩ := N2.cells; obtain ⟨x0, x1, x2, x3, x4, x5, xf⟩ := chip_cells H2.box) | (go_at_call 29; rw [HVV.out]; have hx := Rnor.fuse_x H2.ref HMM.out.2 HV.out q; simp only [Rnor.rv_eq] at hx; refine hx.mono ?_; rintro x w3 ⟨ra, ka, rb, kb, rfl, hp3⟩; clear hx x0 x1 x2 x3 x4 x5 xf; have B3 := H2.box.below hp3.below; obtain ⟨x0, x1, x2, x3, x4, x5, xf⟩ := chip_cells B3))
        have P := H2.laid (s' := { s with c := c' }) hcalm hp3 (set_chip (c' := c') B3) (keep_six (Keep.refl _ w3) (.slice (some ⟨ra, 0, none⟩) c'.words.length ka) (.slice (some ⟨rb, 0, none⟩) c'.wear.length kb) (.int .i64 c'.endure) (.int .i64 c'.fuse) (.int .u32 c'.pick) (.bool c'.off))
        generalize ((((((w3.setCell ⟨N, 0, none⟩ (.slice (some ⟨ra, 0, none⟩) c'.words.length ka)).setCell ⟨N, 1, none⟩ (.slice (some ⟨rb, 0, none⟩) c'.wear.length kb)).setCell ⟨N, 2, none⟩ (.int .i64 c'.endure)).setCell ⟨N, 3, none⟩ (.int .i64 c'.fuse)).setCell ⟨N, 4, none⟩ (.int .u32 c'.pick)).setCell ⟨N, 5, none⟩ (.bool c'.off)) = w4 at *
        clear f3 f4 f5 e6 hk x0 x1 x2 x3 x4 x5 xf B3 hp3 H2 hP
        generalize hs2 : ({ s with c := c' } : Cf.Fl) = s' at *
        have HS2 := Lib.hid hs2
        clear hs2
        exact hEnd P (by omega) (by omega)
      have f6 : (kk % 8 == 6) = false := by simpa using e6
      clear e6
      by_cases e7 : kk % 8 = 7
      · obtain ⟨c', q⟩ : ∃ p, Hid (Nr.on s.c = p) := ⟨_, Lib.hid rfl⟩
        have hcalm1 : Cf.Calm ({ s with c := c' } : Cf.Fl) := ⟨hP.calm.job, hP.calm.wait, hP.calm.errs⟩
        obtain ⟨s2, q2⟩ : ∃ p, Hid (Cf.reset { s with c := c' } = p) := ⟨_, Lib.hid rfl⟩
        have hcalm : Cf.Calm s2 := by rw [← q2.out]; exact ⟨rfl, rfl, rfl⟩
        have c2' : Hid (s2.c = c') := Lib.hid (by rw [← q2.out]; rfl)
        go_upto_region 35 with (first | (go_at_call 30; refine (Nor.on_k hP.dr.fl.own q).mono ?_; rintro x w2 ⟨rfl, O2, K2⟩; have H2 := hP.chip O2 K2; have N2 := NA.keep K2 (fun d => nA (.inl (hP.dr.fl.three d))); clear O2 K2 y0 y1 y2 y3) | (go_at_call 31; refine (Cfi.reset_c H2.dr.fl).mono ?_; rintro x w3 ⟨rfl, F3, K3⟩; rw [q2.out] at F3; have ok1 := H2.dr.fl.ok; have H3 := H2.flash F3 K3; clear F3 K3; obtain ⟨x0, x1, x2, x3, x4, x5, xf⟩ := chip_cells H3.box))
        go_upto_region 36 with (first | (go_at_call 32; have hx := Rnor.on_x H3.ref q; simp only [Rnor.rv_eq] at hx; refine hx.mono ?_; rintro x w4 ⟨ra, ka, rb, kb, rfl, hp4⟩; clear hx x0 x1 x2 x3 x4 x5 xf; have B4 := H3.box.below hp4.below; obtain ⟨x0, x1, x2, x3, x4, x5, xf⟩ := chip_cells B4))
        have H5 := H3.relay (s1 := { s with c := c' }) hcalm1 ok1 hp4 (set_chip (c' := c') B4) (keep_six (Keep.refl _ w4) (.slice (some ⟨ra, 0, none⟩) c'.words.length ka) (.slice (some ⟨rb, 0, none⟩) c'.wear.length kb) (.int .i64 c'.endure) (.int .i64 c'.fuse) (.int .u32 c'.pick) (.bool c'.off))
        generalize ((((((w4.setCell ⟨N, 0, none⟩ (.slice (some ⟨ra, 0, none⟩) c'.words.length ka)).setCell ⟨N, 1, none⟩ (.slice (some ⟨rb, 0, none⟩) c'.wear.length kb)).setCell ⟨N, 2, none⟩ (.int .i64 c'.endure)).setCell ⟨N, 3, none⟩ (.int .i64 c'.fuse)).setCell ⟨N, 4, none⟩ (.int .u32 c'.pick)).setCell ⟨N, 5, none⟩ (.bool c'.off)) = w5 at *
        clear x0 x1 x2 x3 x4 x5 xf B4 hp4 H3 H2 hP
        go_wp2_with (first | (refine load_df rfl _ rfl rfl H5.box ?_) | (go_at_call 33; refine (reset_x q2).mono ?_; rintro x w6 ⟨rfl, b6⟩; have H6 := H5.below b6) | (refine store_df rfl _ _ rfl rfl rfl H6.box ?_; intro w7 hb7 hk7 hs7; clear hs7; have P := H6.laid hcalm (same_post H6.ref c2'.out (Below.refl _ _)) hb7 hk7))
        clear f3 f4 f5 f6 e7 hk
        exact hEnd P (by omega) (by omega)
      have f7 : (kk % 8 == 7) = false := by simpa using e7
      clear e7
      obtain ⟨⟨e, k, s'⟩, q⟩ : ∃ p, Hid (Cf.pws s tt ws = p) := ⟨_, Lib.hid rfl⟩
      have hcalm : Cf.Calm s' := by have := Cf.pwN_calm hP.calm tt ws ws.length; rw [show Cf.pwN s tt ws ws.length = Cf.pws s tt ws from rfl, q.out] at this; exact this
      have htk : 0 ≤ k ∧ k ≤ 30 := by have := Cf.pwN_ticks s tt ws ws.length; rw [show Cf.pwN s tt ws ws.length = Cf.pws s tt ws from rfl, q.out] at this; dsimp only at this; omega
      go_wp2_with (first | (go_at_call 11; refine (program_y hP.dr hP.calm T0 (by omega) (by have := hbl.out; omega) (by have := hbl.out; omega) (by omega) HR HA2.out HC2 q).mono ?_; rintro x w2 ⟨rfl, D2, K2⟩; have H2 := hP.turn D2 (fun k e => e) K2; have N2 := NA.keep K2 nA; clear D2 K2 hP; clear y0 y1 y2 y3; obtain ⟨y0, y1, y2, y3⟩ := N2.cells) | (refine load_d rfl _ rfl rfl H2.box ?_) | (go_at_call 34; refine (Rdl.program_x H2.ref H2.calm H2.ok T0 (by omega) (by have := hbl.out; omega) (by have := hbl.out; omega) (by omega) HR HA2.out (fun i hi => Sl.below_cell H2.dr.fl.own.below (HC2.out i hi)) q).mono ?_; rintro x w3 ⟨ra, ka, rb, kb, rfl, hp3⟩; have B3 := H2.box.below hp3.below) | (refine store_d rfl _ _ rfl rfl rfl B3 (da_size _ _ _ _ _ _) ?_; intro w4 hb4 hk4 hs4; clear hs4; have P := H2.laid hcalm hp3 hb4 hk4))
      clear f3 f4 f5 f6 f7 hk
      exact hEnd P (by omega) (by omega)
end L05Acts
end Go.Proofs.Ytfghlfolejpjjaa
