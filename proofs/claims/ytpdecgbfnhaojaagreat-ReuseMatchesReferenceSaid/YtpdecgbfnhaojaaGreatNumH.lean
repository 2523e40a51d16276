/-
  Walks of the layer 'number': Clone, Take.
-/
import Derived.Test.YtpdecgbfnhaojaaGreatNumG
import Derived.Test.YtpdecgbfnhaojaaGreatOwn
namespace Go.Proofs.YtpdecgbfnhaojaaGreat
open Go.RowKit Nb Sk Go.Sort

theorem info_used : (Tryz.prog.info? 43).map (fun i => (i.zero, i.size, i.bytes)) = some (some (.agg #[.int .i64 0, .int .i64 0, .int .i64 0, .int .i64 0, .int .i64 0]), 5, 40) := by kernel_rfl
theorem cU_len (u : Us) : (cU u).length = 5 := rfl
theorem cU_one (l : List Us) : ∀ v ∈ l.flatMap cU, v.oneCell' = true := by
  intro v hv
  obtain ⟨u, _, hu⟩ := List.mem_flatMap.1 hv
  simp [cU] at hu
  rcases hu with rfl | rfl | rfl | rfl | rfl <;> rfl

set_option maxHeartbeats 1000000 in
theorem clone_any (ao : Option Addr) (n cap : Nat) (l : List Us) (w : World) (hs : Sl w 5 cU ao n cap l) (hn : n ≤ 1000) :
    Calls Tryz.prog 65 #[.slice ao n cap] w fun e w' => ∃ v, e = .returned v ∧ w'.ownsRow w.heap.size 43 5 v n (l.flatMap cU) ∧ Below w.heap.size w w' := by
  obtain rfl := hs.len
  have hle := hs.le
  have hmax := hs.max
  have hnone := hs.none
  obtain ⟨i0, hi, hz0, hz1, hz2⟩ := info_parts info_used
  go_enter Tryz.func65, Tryz.ntmps65
  have heq := slice_eq_nil (P := Tryz.prog) Tryz.underlying22 ao l.length cap
  cases ao with
  | none =>
    obtain rfl := hnone rfl
    have h0 : l = [] := List.eq_nil_of_length_eq_zero (by omega)
    subst h0
    dsimp only [List.length_nil, Option.isNone] at *
    go_wp2_with fail
    go_ret
    exact ⟨_, rfl, World.ownsRow_nil _ _ _ _, Below.refl _ _⟩
  | some a =>
    obtain ⟨b, off, sp⟩ := a
    dsimp only [Option.isNone] at heq
    have hown := World.ownsRow_made (e := 43) (size := 5) w #[] 0 (Nat.le_refl w.heap.size) (Nat.zero_le _) rfl
    have hb1 : Below w.heap.size w (w.alloc (.cells #[] 43)) := grew1 (Below.refl _ _)
    have hcells : ∀ j u, (l.flatMap cU)[j]? = some u → (w.alloc (.cells #[] 43)).cell? ((⟨b, off, sp⟩ : Addr).add j) = some u := by
      intro j u hj
      have hl : l ≠ [] := by rintro rfl; simp at hj
      obtain ⟨b', off', e, _, _⟩ := hs.at_ hl
      simp only [Option.some.injEq, Addr.mk.injEq] at e
      obtain ⟨rfl, rfl, rfl⟩ := e
      exact (hs.below hb1).flat cU_len rfl j u hj
    have hfl : (l.flatMap cU).length = l.length * 5 := flat_len cU_len l
    go_wp2_with (at_builtin; refine wpList_append_own _ rfl _ _ 22 rfl w.heap.size 43 i0 _ 5 40 Tryz.underlying22 hi hz0 hz1 hz2 rfl (by decide) _ 0 [] rfl hown ⟨b, off, sp⟩ l.length cap (l.flatMap cU) rfl hfl hcells (cU_one l) (by unfold maxLen; omega) (by omega) (by simp) ?_)
    rintro v' w' ho hg _
    have hb2 := below_grown hown (Nat.le_refl _) (by simp) hg
    go_wp2
    go_ret
    exact ⟨v', rfl, ho, hb1.trans hb2⟩

/-- what Take returns -/
def Took (w : World) (p : List Us × Nm × Int) (e : Ending) (w' : World) : Prop :=
  ∃ ao n cap, e = .returned (.tuple #[.slice ao n cap, .agg #[.int .i64 p.2.1.st, .int .i64 p.2.1.kd, .int .i64 p.2.1.nu], .int .i64 p.2.2]) ∧ Sl w' 5 cU ao n cap p.1 ∧ w'.ownsRow w.heap.size 43 5 (.slice ao n cap) n (p.1.flatMap cU) ∧ Below w.heap.size w w'

theorem take_arg {l : List Us} {st kd now free : Int} {x : Nm × Int} (hx : next l st kd now = x) (h : x.2 = 1 ∨ free ≤ now ∨ tm free = false) : take l st kd now free = ([], zeroN, 1) := by
  obtain ⟨n, e⟩ := x
  unfold take; rw [hx]; dsimp only at h ⊢; rw [if_pos h]
theorem take_limit {l : List Us} {st kd now free : Int} {x : Nm × Int} (hx : next l st kd now = x) (h : ¬ (x.2 = 1 ∨ free ≤ now ∨ tm free = false)) (h2 : 200 ≤ l.length) : take l st kd now free = ([], zeroN, 2) := by
  obtain ⟨n, e⟩ := x
  unfold take; rw [hx]; dsimp only at h ⊢; rw [if_neg h, if_pos h2]
theorem take_err {l : List Us} {st kd now free : Int} {x : Nm × Int} (hx : next l st kd now = x) (h : ¬ (x.2 = 1 ∨ free ≤ now ∨ tm free = false)) (h2 : ¬ 200 ≤ l.length) (h3 : x.2 ≠ 0) : take l st kd now free = ([], zeroN, x.2) := by
  obtain ⟨n, e⟩ := x
  unfold take; rw [hx]; dsimp only at h h3 ⊢; rw [if_neg h, if_neg h2, if_pos h3]
theorem take_ok {l : List Us} {st kd now free : Int} {x : Nm × Int} (hx : next l st kd now = x) (h : ¬ (x.2 = 1 ∨ free ≤ now ∨ tm free = false)) (h2 : ¬ 200 ≤ l.length) (h3 : x.2 = 0) : take l st kd now free = (l ++ [⟨x.1, now, free⟩], x.1, 0) := by
  obtain ⟨n, e⟩ := x
  unfold take; rw [hx]; dsimp only at h h3 ⊢; rw [if_neg h, if_neg h2, if_neg (by simp [h3])]

set_option maxRecDepth 100000 in
set_option maxHeartbeats 2000000 in
theorem take_any (ao : Option Addr) (n cap : Nat) (l : List Us) (st kd now free : Int) (w : World) (hs : Sl w 5 cU ao n cap l) :
    Calls Tryz.prog 31 #[.slice ao n cap, .int .i64 st, .int .i64 kd, .int .i64 now, .int .i64 free] w (Took w (take l st kd now free)) := by
  obtain rfl := hs.len
  have hcap := hs.max
  have hle := hs.le
  unfold maxLen at hcap
  have HS := Lib.hid hs
  clear hs
  obtain ⟨p, hp⟩ : ∃ p, take l st kd now free = p := ⟨_, rfl⟩
  have HP := Lib.hid hp
  rw [hp]
  clear hp
  obtain ⟨x, hx⟩ : ∃ x, next l st kd now = x := ⟨_, rfl⟩
  have HX := Lib.hid hx
  obtain ⟨W0, hW0, HB_W0, hZ, hr⟩ := boxes1 w [.int .i64 0, .int .i64 0, .int .i64 0] 29
  have H_r := Lib.hid hr
  clear hr
  go_enter Tryz.func31, Tryz.ntmps31
  go_wp2_with fail
  refine (next_any _ _ _ l st kd now W0 (HS.out.below HB_W0)).mono ?_
  rintro e wa ⟨rfl, hb⟩
  rw [hx]
  obtain ⟨⟨a, b, c⟩, q⟩ := x
  dsimp only
  have HB_a : Below w.heap.size w wa := after0 HB_W0 hb
  have H_r2 := Lib.hid (H_r.out.below hb)
  clear hx hW0 hb H_r
  obtain ⟨W1, hW1, hB1, hZ1, hv⟩ := boxes1 wa [.int .i64 a, .int .i64 b, .int .i64 c] 29
  have H_v := Lib.hid hv
  have H_r3 := Lib.hid (H_r2.out.below hB1)
  have HB_1 : Below w.heap.size w W1 := after0 HB_a hB1
  have hVR : w.heap.size < wa.heap.size := H_r2.out.lt
  obtain ⟨V, hV⟩ : ∃ V, wa.heap.size = V := ⟨_, rfl⟩
  rw [hV] at H_v hVR hZ1
  clear hv hB1 H_r2 HB_a
  by_cases g1 : q = 1
  · subst g1
    have HP2 : Hid (p = ([], zeroN, 1)) := by show _ = _; rw [← HP.out]; exact take_arg HX.out (.inl rfl)
    have H_r4 := H_r3
    have HB_4 := HB_1
    have f1 := H_r4.out.frozen
    obtain ⟨r0, r1, r2⟩ := H_r4.out.c3
    go_wp2_with fail
    obtain ⟨s0, s1, s2⟩ := (((H_r4.out.set 0 (.int .i64 0)).set 1 (.int .i64 0)).set 2 (.int .i64 0)).c3
    refine bodyPost_ret (v := .tuple #[.slice none 0 0, .agg #[.int .i64 0, .int .i64 0, .int .i64 0], .int .i64 1]) (by simp [results, Tryz.results31, go_sem, s0, s1, s2]) rfl ?_
    exact ⟨none, 0, 0, by rw [HP2.out]; rfl, by rw [HP2.out]; exact Sl.nil, by rw [HP2.out]; exact World.ownsRow_nil _ _ _ _, ((HB_4.setCell (p := ⟨w.heap.size, 0, none⟩) (Nat.le_refl _) _).setCell (p := ⟨w.heap.size, 1, none⟩) (Nat.le_refl _) _).setCell (p := ⟨w.heap.size, 2, none⟩) (Nat.le_refl _) _⟩
  have g1' : (q == 1) = false := beq_eq_false_iff_ne.2 g1
  by_cases g2 : free ≤ now
  · have HP2 : Hid (p = ([], zeroN, 1)) := by show _ = _; rw [← HP.out]; exact take_arg HX.out (.inr (.inl g2))
    have H_r4 := H_r3
    have HB_4 := HB_1
    have f1 := H_r4.out.frozen
    obtain ⟨r0, r1, r2⟩ := H_r4.out.c3
    go_wp2_with fail
    obtain ⟨s0, s1, s2⟩ := (((H_r4.out.set 0 (.int .i64 0)).set 1 (.int .i64 0)).set 2 (.int .i64 0)).c3
    refine bodyPost_ret (v := .tuple #[.slice none 0 0, .agg #[.int .i64 0, .int .i64 0, .int .i64 0], .int .i64 1]) (by simp [results, Tryz.results31, go_sem, s0, s1, s2]) rfl ?_
    exact ⟨none, 0, 0, by rw [HP2.out]; rfl, by rw [HP2.out]; exact Sl.nil, by rw [HP2.out]; exact World.ownsRow_nil _ _ _ _, ((HB_4.setCell (p := ⟨w.heap.size, 0, none⟩) (Nat.le_refl _) _).setCell (p := ⟨w.heap.size, 1, none⟩) (Nat.le_refl _) _).setCell (p := ⟨w.heap.size, 2, none⟩) (Nat.le_refl _) _⟩
  go_wp2_with fail
  refine (moment_any _ _).mono ?_
  rintro e wb ⟨rfl, hb⟩
  have H_r4 := Lib.hid (H_r3.out.below hb)
  have H_v4 := Lib.hid (H_v.out.below hb)
  have HB_4 : Below w.heap.size w wb := after0 HB_1 hb
  clear hW1 hb H_r3 H_v HB_1
  by_cases g3 : tm free = true
  · rw [g3]
    have hno : ¬ (q = 1 ∨ free ≤ now ∨ tm free = false) := by simp [g1, g2, g3]
    by_cases g4 : 200 ≤ l.length
    · have HP2 : Hid (p = ([], zeroN, 2)) := by show _ = _; rw [← HP.out]; exact take_limit HX.out hno g4
      have f1 := H_r4.out.frozen
      obtain ⟨r0, r1, r2⟩ := H_r4.out.c3
      go_wp2_with fail
      obtain ⟨s0, s1, s2⟩ := (((H_r4.out.set 0 (.int .i64 0)).set 1 (.int .i64 0)).set 2 (.int .i64 0)).c3
      refine bodyPost_ret (v := .tuple #[.slice none 0 0, .agg #[.int .i64 0, .int .i64 0, .int .i64 0], .int .i64 2]) (by simp [results, Tryz.results31, go_sem, s0, s1, s2]) rfl ?_
      exact ⟨none, 0, 0, by rw [HP2.out]; rfl, by rw [HP2.out]; exact Sl.nil, by rw [HP2.out]; exact World.ownsRow_nil _ _ _ _, ((HB_4.setCell (p := ⟨w.heap.size, 0, none⟩) (Nat.le_refl _) _).setCell (p := ⟨w.heap.size, 1, none⟩) (Nat.le_refl _) _).setCell (p := ⟨w.heap.size, 2, none⟩) (Nat.le_refl _) _⟩
    by_cases g5 : q = 0
    · subst g5
      have HP2 : Hid (p = (l ++ [⟨⟨a, b, c⟩, now, free⟩], ⟨a, b, c⟩, 0)) := by show _ = _; rw [← HP.out]; exact take_ok HX.out hno g4 rfl
      clear g1'
      go_wp2_with fail
      have hRR : w.heap.size < wb.heap.size := H_r4.out.lt
      obtain ⟨k0, k1, k2⟩ := H_v4.out.c3
      have y0 := cell_regrown k0
      have y1 := cell_regrown k1
      have y2 := cell_regrown k2
      clear k0 k1 k2
      obtain ⟨i0, hi, hz0, hz1, hz2⟩ := info_parts info_used
      have HSL : Hid (Sl wb 5 cU ao l.length cap l) := HS.out.below HB_4
      have HNL : Hid (l.length < 200) := by show _ < _; omega
      refine wp_region_mix (C := fun w' => ∃ p : Regrown, w' = grow (redrawn wb p.d) p.os) [(0, 0), (2, 0), (3, 0), (4, 0), (5, 0), (8, 0), (1, 8), (7, 1), (9, 0)] 10 (by kernel_rfl) (by kernel_rfl) (grew_drew _) ?_
      repeat (refine mix_q rfl rfl ?_; first | go_big_quiet_skip | (go_big_quiet_want; go_big_quiet_op; go_big_quiet_on); refine wpQuiet_nil ?_)
      have hbd : Below wb.heap.size wb { wb with drawn := wb.drawn + 1 } := (Below.refl _ _).drew
      refine mix_p rfl rfl ?_ ?_
      · go_wp2_with fail
        refine (clone_any ao l.length cap l _ (HSL.out.below hbd) (by omega)).mono ?_
        rintro e w3 ⟨v, rfl, ho3, hb3⟩
        have HB3 : Below wb.heap.size wb w3 := hbd.trans hb3
        go_wp2_with fail
        refine MixPost.intro (grew_of_below HB3) ?_
        go_wp2_with fail
        obtain ⟨NB, hNB⟩ : ∃ NB, w3.heap.size = NB := ⟨_, rfl⟩
        have HO4 := ho3.alloc (.cells #[.int .i64 a, .int .i64 b, .int .i64 c, .int .i64 now, .int .i64 free] 43)
        have HC4 := cells_new w3 (cU ⟨⟨a, b, c⟩, now, free⟩) 43
        rw [hNB] at HC4 ⊢
        have HB4 : Below wb.heap.size wb (w3.alloc (.cells #[.int .i64 a, .int .i64 b, .int .i64 c, .int .i64 now, .int .i64 free] 43)) := grew1 HB3
        have HS4 := HB4.size
        refine MixPost.intro (grew_of_below HB4) ?_
        refine mix_e rfl ?_
        go_wp2_with (at_builtin; refine wpList_append_own _ rfl _ _ 22 rfl wb.heap.size 43 i0 _ 5 40 Tryz.underlying22 hi hz0 hz1 hz2 rfl (by decide) _ l.length (l.flatMap cU) rfl HO4 ⟨NB, 0, none⟩ 1 1 (cU ⟨⟨a, b, c⟩, now, free⟩) rfl rfl HC4 (by intro u hu; simp at hu; rcases hu with rfl | rfl | rfl | rfl | rfl <;> rfl) (by unfold maxLen; omega) (by omega) HS4 ?_)
        rintro v' w5 ho5 hg5 _
        have HB5 : Below wb.heap.size wb w5 := HB4.trans (below_grown HO4 (Nat.le_refl _) HS4 hg5)
        refine MixPost.intro (grew_of_below HB5) ?_
        repeat (refine mix_q rfl rfl ?_; first | go_big_quiet_skip | (go_big_quiet_want; go_big_quiet_op; go_big_quiet_on); refine wpQuiet_nil ?_)
        try refine wpQuiet_nil ?_
        refine wpMix_nil ?_
        try simp only [List.drop_succ_cons, List.drop_zero]
        have H_r5 := Lib.hid (H_r4.out.below HB5)
        have f1 := H_r5.out.frozen
        obtain ⟨r0, r1, r2⟩ := H_r5.out.c3
        clear y0 y1 y2
        go_wp2_with fail
        refine NoPanic.normal ?_
        go_wp2_with fail
        obtain ⟨s0, s1, s2⟩ := (((H_r5.out.set 0 (.int .i64 a)).set 1 (.int .i64 b)).set 2 (.int .i64 c)).c3
        have ho6 := owns_setCell (b := w.heap.size) (j := 0) (x := .int .i64 a) ho5 hRR
        have ho7 := owns_setCell (b := w.heap.size) (j := 1) (x := .int .i64 b) ho6 hRR
        have ho8 := owns_setCell (b := w.heap.size) (j := 2) (x := .int .i64 c) ho7 hRR
        obtain ⟨ao', cap', rfl, hsl, _⟩ := Sl.of_owns (l := l ++ [⟨⟨a, b, c⟩, now, free⟩]) (n := l.length + 1) cU_len (by simpa [cU] using ho8) (by simp)
        refine bodyPost_ret (v := .tuple #[.slice ao' (l.length + 1) cap', .agg #[.int .i64 a, .int .i64 b, .int .i64 c], .int .i64 0]) (by simp [results, Tryz.results31, go_sem, s0, s1, s2]) rfl ?_
        have HB6 : Below w.heap.size w w5 := HB_4.trans (HB5.mono HB_4.size)
        exact ⟨ao', l.length + 1, cap', by rw [HP2.out], by rw [HP2.out]; exact hsl, by rw [HP2.out]; simpa [cU] using owns_mono ho8 HB_4.size, ((HB6.setCell (p := ⟨w.heap.size, 0, none⟩) (Nat.le_refl _) _).setCell (p := ⟨w.heap.size, 1, none⟩) (Nat.le_refl _) _).setCell (p := ⟨w.heap.size, 2, none⟩) (Nat.le_refl _) _⟩
      · go_wp2_with fail
        obtain ⟨W3, hW3⟩ : ∃ W3, (wb.alloc (.cells #[.int .i64 a, .int .i64 b, .int .i64 c, .int .i64 now, .int .i64 free] 43)).drew = W3 := ⟨_, rfl⟩
        have HB3 : Below wb.heap.size wb W3 := hW3 ▸ (grew1 (Below.refl _ _)).drew
        have HX3 : Box W3 wb.heap.size 43 (cU ⟨⟨a, b, c⟩, now, free⟩) := hW3 ▸ Box.new wb (cU ⟨⟨a, b, c⟩, now, free⟩) 43
        have hS3 : wb.heap.size ≤ W3.heap.size := HB3.size
        rw [hW3]
        clear hW3
        refine MixPost.intro (grew_of_below HB3) ?_
        go_wp2_with fail
        refine (clone_any ao l.length cap l _ (HSL.out.below HB3) (by omega)).mono ?_
        rintro e w4 ⟨v, rfl, ho4, hb4⟩
        have HB4 : Below wb.heap.size wb w4 := HB3.trans (hb4.mono hS3)
        have HO4 := owns_mono ho4 hS3
        have HC4 : ∀ j u, (cU ⟨⟨a, b, c⟩, now, free⟩)[j]? = some u → w4.cell? ((⟨wb.heap.size, 0, none⟩ : Addr).add j) = some u := fun j u hj => by
          rw [Addr.add_lit]; exact (HX3.below hb4).cells j u hj
        have HS4 : wb.heap.size ≤ w4.heap.size := HB4.size
        clear hb4 ho4 HX3
        go_wp2_with fail
        refine MixPost.intro (grew_of_below HB4) ?_
        refine mix_e rfl ?_
        go_wp2_with (at_builtin; refine wpList_append_own _ rfl _ _ 22 rfl wb.heap.size 43 i0 _ 5 40 Tryz.underlying22 hi hz0 hz1 hz2 rfl (by decide) _ l.length (l.flatMap cU) rfl HO4 ⟨wb.heap.size, 0, none⟩ 1 1 (cU ⟨⟨a, b, c⟩, now, free⟩) rfl rfl HC4 (by intro u hu; simp at hu; rcases hu with rfl | rfl | rfl | rfl | rfl <;> rfl) (by unfold maxLen; omega) (by omega) HS4 ?_)
        rintro v' w5 ho5 hg5 _
        have HB5 : Below wb.heap.size wb w5 := HB4.trans (below_grown HO4 (Nat.le_refl _) HS4 hg5)
        refine MixPost.intro (grew_of_below HB5) ?_
        repeat (refine mix_q rfl rfl ?_; first | go_big_quiet_skip | (go_big_quiet_want; go_big_quiet_op; go_big_quiet_on); refine wpQuiet_nil ?_)
        try refine wpQuiet_nil ?_
        refine wpMix_nil ?_
        try simp only [List.drop_succ_cons, List.drop_zero]
        have H_r5 := Lib.hid (H_r4.out.below HB5)
        have f1 := H_r5.out.frozen
        obtain ⟨r0, r1, r2⟩ := H_r5.out.c3
        clear y0 y1 y2
        go_wp2_with fail
        refine NoPanic.normal ?_
        go_wp2_with fail
        obtain ⟨s0, s1, s2⟩ := (((H_r5.out.set 0 (.int .i64 a)).set 1 (.int .i64 b)).set 2 (.int .i64 c)).c3
        have ho6 := owns_setCell (b := w.heap.size) (j := 0) (x := .int .i64 a) ho5 hRR
        have ho7 := owns_setCell (b := w.heap.size) (j := 1) (x := .int .i64 b) ho6 hRR
        have ho8 := owns_setCell (b := w.heap.size) (j := 2) (x := .int .i64 c) ho7 hRR
        obtain ⟨ao', cap', rfl, hsl, _⟩ := Sl.of_owns (l := l ++ [⟨⟨a, b, c⟩, now, free⟩]) (n := l.length + 1) cU_len (by simpa [cU] using ho8) (by simp)
        refine bodyPost_ret (v := .tuple #[.slice ao' (l.length + 1) cap', .agg #[.int .i64 a, .int .i64 b, .int .i64 c], .int .i64 0]) (by simp [results, Tryz.results31, go_sem, s0, s1, s2]) rfl ?_
        have HB6 : Below w.heap.size w w5 := HB_4.trans (HB5.mono HB_4.size)
        exact ⟨ao', l.length + 1, cap', by rw [HP2.out], by rw [HP2.out]; exact hsl, by rw [HP2.out]; simpa [cU] using owns_mono ho8 HB_4.size, ((HB6.setCell (p := ⟨w.heap.size, 0, none⟩) (Nat.le_refl _) _).setCell (p := ⟨w.heap.size, 1, none⟩) (Nat.le_refl _) _).setCell (p := ⟨w.heap.size, 2, none⟩) (Nat.le_refl _) _⟩
    · have g5' : (q == 0) = false := beq_eq_false_iff_ne.2 g5
      have HP2 : Hid (p = ([], zeroN, q)) := by show _ = _; rw [← HP.out]; exact take_err HX.out hno g4 g5
      have f1 := H_r4.out.frozen
      obtain ⟨r0, r1, r2⟩ := H_r4.out.c3
      go_wp2_with fail
      obtain ⟨s0, s1, s2⟩ := (((H_r4.out.set 0 (.int .i64 0)).set 1 (.int .i64 0)).set 2 (.int .i64 0)).c3
      refine bodyPost_ret (v := .tuple #[.slice none 0 0, .agg #[.int .i64 0, .int .i64 0, .int .i64 0], .int .i64 q]) (by simp [results, Tryz.results31, go_sem, s0, s1, s2]) rfl ?_
      exact ⟨none, 0, 0, by rw [HP2.out]; rfl, by rw [HP2.out]; exact Sl.nil, by rw [HP2.out]; exact World.ownsRow_nil _ _ _ _, ((HB_4.setCell (p := ⟨w.heap.size, 0, none⟩) (Nat.le_refl _) _).setCell (p := ⟨w.heap.size, 1, none⟩) (Nat.le_refl _) _).setCell (p := ⟨w.heap.size, 2, none⟩) (Nat.le_refl _) _⟩
  · have g3' : tm free = false := by simpa using g3
    have HP2 : Hid (p = ([], zeroN, 1)) := by show _ = _; rw [← HP.out]; exact take_arg HX.out (.inr (.inr g3'))
    rw [g3']
    have f1 := H_r4.out.frozen
    obtain ⟨r0, r1, r2⟩ := H_r4.out.c3
    go_wp2_with fail
    obtain ⟨s0, s1, s2⟩ := (((H_r4.out.set 0 (.int .i64 0)).set 1 (.int .i64 0)).set 2 (.int .i64 0)).c3
    refine bodyPost_ret (v := .tuple #[.slice none 0 0, .agg #[.int .i64 0, .int .i64 0, .int .i64 0], .int .i64 1]) (by simp [results, Tryz.results31, go_sem, s0, s1, s2]) rfl ?_
    exact ⟨none, 0, 0, by rw [HP2.out]; rfl, by rw [HP2.out]; exact Sl.nil, by rw [HP2.out]; exact World.ownsRow_nil _ _ _ _, ((HB_4.setCell (p := ⟨w.heap.size, 0, none⟩) (Nat.le_refl _) _).setCell (p := ⟨w.heap.size, 1, none⟩) (Nat.le_refl _) _).setCell (p := ⟨w.heap.size, 2, none⟩) (Nat.le_refl _) _⟩
end Go.Proofs.YtpdecgbfnhaojaaGreat
