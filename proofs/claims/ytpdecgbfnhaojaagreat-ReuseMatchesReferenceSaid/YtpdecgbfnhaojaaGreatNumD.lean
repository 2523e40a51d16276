/-
  Walks of the layer 'number': read, which makes the pool of numbers of a station and a kind.
-/
import Derived.Test.YtpdecgbfnhaojaaGreatNumC
import Derived.Test.YtpdecgbfnhaojaaGreatMix
namespace Go.Proofs.YtpdecgbfnhaojaaGreat
open Go.RowKit Nb Sk Go.Sort

/-- the three tests of what is asked -/
theorem asked_one {l : List Us} {st kd now : Int} (h : rows l = false ∨ okN ⟨st, kd, 1⟩ = false ∨ tm now = false) : asked l st kd now = 1 := by
  unfold asked; rw [if_pos (by rcases h with h | h | h <;> simp [h])]
theorem asked_rest {l : List Us} {st kd now : Int} (h1 : rows l = true) (h2 : okN ⟨st, kd, 1⟩ = true) (h3 : tm now = true) : asked l st kd now = match l.getLast? with | some u => if now < u.fr then 13 else 0 | none => 0 := by
  unfold asked; rw [if_neg (by simp [h1, h2, h3])]; cases l.getLast? <;> rfl


/-- the cells of a pool -/
def poolC (st kd last : Int) (us : List Bool) : List Value := [.int .i64 st, .int .i64 kd, .int .i64 last] ++ us.map .bool

theorem pool_build (st kd : Int) (w : World) : (Instr.build 92 #[(0, .int .i64 st), (1, .int .i64 kd)]).run Tryz.prog w = .ok (.agg (poolC st kd 0 noUse).toArray) w := by kernel_rfl
theorem pool_box (st kd : Int) (w : World) : (Instr.box 92 (.agg (poolC st kd 0 noUse).toArray)).run Tryz.prog w = .ok (.pointer (some ⟨w.heap.size, 0, none⟩)) (w.alloc (.cells (poolC st kd 0 noUse).toArray 92)) := by kernel_rfl

set_option maxHeartbeats 1000000 in
theorem read_err (ao : Option Addr) (n cap : Nat) (l : List Us) (st kd now : Int) (w : World) (hs : Sl w 5 cU ao n cap l) (ha : asked l st kd now ≠ 0) :
    Calls Tryz.prog 68 #[.slice ao n cap, .int .i64 st, .int .i64 kd, .int .i64 now] w (Ret w (.tuple #[.pointer none, .int .i64 (asked l st kd now)])) := by
  obtain rfl := hs.len
  have hcap := hs.max
  have hle := hs.le
  unfold maxLen at hcap
  have HS := Lib.hid hs
  clear hs
  have HB_w : Below w.heap.size w w := Below.refl _ _
  obtain ⟨q, hq⟩ : ∃ q, asked l st kd now = q := ⟨_, rfl⟩
  have HQ := Lib.hid hq
  rw [hq]
  rw [hq] at ha
  clear hq
  have HA := Lib.hid ha
  clear ha
  go_enter Tryz.func68, Tryz.ntmps68
  go_wp2_with fail
  refine (rows_any _ _ _ l _ HS.out).mono ?_
  rintro e wa ⟨rfl, hb_wa⟩
  have HB_wa : Below w.heap.size w wa := by first | exact after0 HB_w hb_wa | exact after1 HB_w hb_wa | exact after2 HB_w hb_wa | exact after3 HB_w hb_wa | exact after4 HB_w hb_wa | exact after5 HB_w hb_wa
  go_wp2_with fail
  · have h : rows l = false := by assumption
    go_ret2
    exact ⟨by rw [← HQ.out, asked_one (.inl h)]; rfl, HB_wa⟩
  have g1 : rows l = true := by assumption
  refine (valid_any _ _ _ _).mono ?_
  rintro e wb ⟨rfl, hb_wb⟩
  have HB_wb : Below w.heap.size w wb := by first | exact after0 HB_wa hb_wb | exact after1 HB_wa hb_wb | exact after2 HB_wa hb_wb | exact after3 HB_wa hb_wb | exact after4 HB_wa hb_wb | exact after5 HB_wa hb_wb
  go_wp2_with fail
  · have h : okN ⟨st, kd, 1⟩ = false := by first | assumption | exact bnot_t (by assumption)
    go_ret2
    exact ⟨by rw [← HQ.out, asked_one (.inr (.inl h))]; rfl, HB_wb⟩
  have g2 : okN ⟨st, kd, 1⟩ = true := by first | assumption | exact bnot_f (by assumption)
  refine (moment_any _ _).mono ?_
  rintro e wc ⟨rfl, hb_wc⟩
  have HB_wc : Below w.heap.size w wc := by first | exact after0 HB_wb hb_wc | exact after1 HB_wb hb_wc | exact after2 HB_wb hb_wc | exact after3 HB_wb hb_wc | exact after4 HB_wb hb_wc | exact after5 HB_wb hb_wc
  by_cases g3 : tm now = true
  · have HR := Lib.hid (HQ.out.symm.trans (asked_rest g1 g2 g3))
    rw [g3]
    rcases Nat.eq_zero_or_pos l.length with h0 | h0
    · exfalso
      have := HR.out
      rw [List.eq_nil_of_length_eq_zero h0] at this
      exact HA.out this
    · obtain ⟨b, off, rfl, hb, hrow⟩ := HS.out.get h0
      obtain ⟨k0, k1, k2, k3, k4⟩ := ((hrow (l.length - 1) (by omega)).below HB_wc hb).c5
      have HL : Hid (l.getLast? = some (l[l.length - 1]'(by omega))) := by
        show _ = _
        rw [List.getLast?_eq_some_getLast (by intro e; rw [e] at h0; simp at h0), List.getLast_eq_getElem]
      have HR2 : Hid (q = if now < (l[l.length - 1]'(by omega)).fr then 13 else 0) := by
        show _ = _
        rw [HR.out, HL.out]
      have hlt : now < (l[l.length - 1]'(by omega)).fr := by
        rcases Int.lt_or_le now (l[l.length - 1]'(by omega)).fr with h | h
        · exact h
        · exfalso; apply HA.out; rw [HR2.out, if_neg (by omega)]
      have HR3 : Hid (q = 13) := by show _ = _; rw [HR2.out, if_pos hlt]
      clear hrow
      generalize (l[l.length - 1]'(by omega)) = u at *
      go_wp2_with fail
      go_ret2
      exact ⟨by rw [HR3.out]; rfl, HB_wc⟩
  · have g3' : tm now = false := by simpa using g3
    rw [g3']
    clear g3
    go_wp2_with fail
    go_ret2
    exact ⟨by rw [← HQ.out, asked_one (.inr (.inr g3'))]; rfl, HB_wc⟩

theorem poolC_us {st kd last : Int} {us : List Bool} {j : Nat} {q : Bool} (h : us[j]? = some q) : (poolC st kd last us)[3 + j]? = some (.bool q) := by
  rw [Nat.add_comm]; simp [poolC, h]
theorem poolC_last (st kd last last' : Int) (us : List Bool) : (poolC st kd last us).set 2 (.int .i64 last') = poolC st kd last' us := rfl
theorem poolC_set (st kd last : Int) (us : List Bool) (j : Nat) (q : Bool) : (poolC st kd last us).set (3 + j) (.bool q) = poolC st kd last (us.set j q) := by
  rw [Nat.add_comm]; simp [poolC, List.map_set]

set_option maxHeartbeats 4000000 in
set_option maxRecDepth 100000 in
theorem read_ok (ao : Option Addr) (n cap : Nat) (l : List Us) (st kd now : Int) (w : World) (hs : Sl w 5 cU ao n cap l) (ha : asked l st kd now = 0) :
    Calls Tryz.prog 68 #[.slice ao n cap, .int .i64 st, .int .i64 kd, .int .i64 now] w fun e w' => ∃ N, e = .returned (.tuple #[.pointer (some ⟨N, 0, none⟩), .int .i64 0]) ∧ w.heap.size ≤ N ∧ Box w' N 92 (poolC st kd (lastNu l st kd) (usedL l st kd now)) ∧ Below w.heap.size w w' := by
  obtain rfl := hs.len
  have hcap := hs.max
  have hle := hs.le
  unfold maxLen at hcap
  have HS := Lib.hid hs
  clear hs
  have HB_w : Below w.heap.size w w := Below.refl _ _
  obtain ⟨g1, g2, g3, hlast⟩ := asked_zero ha
  have HROK := Lib.hid (rows_iff.1 g1)
  have HL := Lib.hid hlast
  clear ha hlast
  go_enter Tryz.func68, Tryz.ntmps68
  go_wp2_with fail
  refine (rows_any _ _ _ l _ HS.out).mono ?_
  rintro e wa ⟨rfl, hb_wa⟩
  have HB_wa : Below w.heap.size w wa := by first | exact after0 HB_w hb_wa | exact after1 HB_w hb_wa | exact after2 HB_w hb_wa | exact after3 HB_w hb_wa | exact after4 HB_w hb_wa | exact after5 HB_w hb_wa
  rw [g1]
  go_wp2_with fail
  refine (valid_any _ _ _ _).mono ?_
  rintro e wb ⟨rfl, hb_wb⟩
  have HB_wb : Below w.heap.size w wb := by first | exact after0 HB_wa hb_wb | exact after1 HB_wa hb_wb | exact after2 HB_wa hb_wb | exact after3 HB_wa hb_wb | exact after4 HB_wa hb_wb | exact after5 HB_wa hb_wb
  rw [g2]
  go_wp2_with fail
  refine (moment_any _ _).mono ?_
  rintro e wc ⟨rfl, hb_wc⟩
  have HB_wc : Below w.heap.size w wc := by first | exact after0 HB_wb hb_wc | exact after1 HB_wb hb_wc | exact after2 HB_wb hb_wc | exact after3 HB_wb hb_wc | exact after4 HB_wb hb_wc | exact after5 HB_wb hb_wc
  rw [g3]
  rcases Nat.eq_zero_or_pos l.length with h0 | h0
  · obtain rfl := List.eq_nil_of_length_eq_zero h0
    go_wp2_with (first | (refine Sk.wpList_lit rfl 92 _ rfl _ (pool_build st kd _) ?_) | (refine Sk.wpList_boxed rfl 92 _ rfl _ (pool_box st kd _) ?_))
    refine wp_loop_rounds 1 ?_
    rw [rounds_succ]
    go_wp2
    go_ret2
    exact ⟨wc.heap.size, rfl, HB_wc.size, by rw [usedL_nil]; exact Box.new _ _ _, grew1 HB_wc⟩
  obtain ⟨b, off, rfl, hb, hrow⟩ := HS.out.get h0
  obtain ⟨k0, k1, k2, k3, k4⟩ := ((hrow (l.length - 1) (by omega)).below HB_wc hb).c5
  have hlt : (l[l.length - 1]'(by omega)).fr ≤ now := HL.out _ (by rw [List.getLast?_eq_some_getLast (by intro e; rw [e] at h0; simp at h0), List.getLast_eq_getElem])
  generalize (l[l.length - 1]'(by omega)) = u at *
  go_wp2_with (first | (refine Sk.wpList_lit rfl 92 _ rfl _ (pool_build st kd _) ?_) | (refine Sk.wpList_boxed rfl 92 _ rfl _ (pool_box st kd _) ?_))
  clear k0 k1 k2 k3 k4 hlt
  obtain ⟨N, hN⟩ : ∃ N, wc.heap.size = N := ⟨_, rfl⟩
  have hNw : w.heap.size ≤ N := hN ▸ HB_wc.size
  obtain ⟨W1, hW1⟩ : ∃ W1, wc.alloc (.cells (poolC st kd 0 noUse).toArray 92) = W1 := ⟨_, rfl⟩
  have HBX : Hid (Box W1 N 92 (poolC st kd 0 noUse)) := by rw [← hW1, ← hN]; exact Box.new _ _ _
  have HB_1 : Below w.heap.size w W1 := hW1 ▸ grew1 HB_wc
  rw [hW1, hN]
  clear hW1 hN
  clear hb_wa hb_wb hb_wc HB_wa HB_wb HB_wc
  go_loopw [48] (fun i wr => ∃ k : Nat, k ≤ l.length ∧ i = .int .i64 k ∧ Below w.heap.size w wr ∧ Hid (Box wr N 92 (poolC st kd (lastNu (l.take k) st kd) (usedL (l.take k) st kd now)))) (fun i _ => l.length - (intOf i).toNat)
  case atStart => exact ⟨0, Nat.zero_le _, rfl, HB_1, by rw [List.take_zero, usedL_nil]; exact HBX⟩
  case round =>
    clear HBX HB_1
    obtain ⟨k, hk, rfl, hbel, HX⟩ := hrel
    by_cases hkl : k < l.length
    · obtain ⟨h0, h1, h2, h3, h4⟩ := ((hrow k hkl).below hbel hb).c5
      have HNU := Lib.hid ((HROK.out.ok _ (List.getElem_mem hkl)).1)
      have HLA := Lib.hid (lastNu_snoc (l.take k) l[k] st kd)
      have HUS := Lib.hid (fun m => usedL_hit (l.take k) l[k] st kd now m)
      have HUO := Lib.hid (usedL_other (l.take k) l[k] st kd now)
      have HT := Lib.hid (List.take_succ_eq_append_getElem hkl)
      clear hrow
      generalize l[k] = u at *
      obtain ⟨⟨a, b1, c⟩, f, g⟩ := u
      dsimp only at h0 h1 h2 h3 h4
      have hnu := okN_iff.1 HNU.out
      dsimp only at hnu
      obtain ⟨m, rfl⟩ : ∃ m : Nat, c = m := ⟨c.toNat, by omega⟩
      have hm1 : 1 ≤ m := by omega
      have hm2 : m ≤ 99 := by omega
      clear hnu HNU
      have x2 := HX.out.cell (j := 2) rfl
      have xf := HX.out.frozen
      have hNlt := HX.out.lt
      by_cases hm : a = st ∧ b1 = kd
      · have HLA2 := Lib.hid (HLA.out.trans (if_pos hm))
        have HUS2 := Lib.hid (HUS.out m hm.1 hm.2 rfl)
        clear HLA HUS HUO
        obtain ⟨rfl, rfl⟩ := hm
        obtain ⟨us, hus⟩ : ∃ us, usedL (l.take k) a b1 now = us := ⟨_, rfl⟩
        have hul : us.length = 100 := by rw [← hus, usedL_length]
        obtain ⟨q, hq⟩ : ∃ q, us[m]? = some q := ⟨_, List.getElem?_eq_getElem (by omega)⟩
        have HQ : Hid (used (l.take k) ⟨a, b1, (m : Int)⟩ now = q) := by
          show _ = _
          have := usedL_get (l.take k) a b1 now m (by rw [usedL_length]; omega)
          rw [← this]
          subst hus
          rw [List.getElem?_eq_getElem (by rw [usedL_length]; omega)] at hq
          exact Option.some.inj hq
        rw [hus] at HX HUS2
        rw [HQ.out] at HUS2
        have hcov : cov ⟨⟨a, b1, (m : Int)⟩, f, g⟩ now = covI f g now := rfl
        rw [hcov] at HUS2
        clear hcov hus HQ
        have Hq := Lib.hid (poolC_us (st := a) (kd := b1) (last := (m : Int)) hq)
        clear hq
        go_wp2_with fail
        obtain ⟨W2, hW2⟩ : ∃ W2, (wr.setCell ⟨N, 2, none⟩ (.int .i64 (m : Int))).alloc (.cells #[.int .i64 a, .int .i64 b1, .int .i64 (m : Int), .int .i64 f, .int .i64 g] 43) = W2 := ⟨_, rfl⟩
        have HX2 : Hid (Box W2 N 92 (poolC a b1 m us)) := by
          rw [← hW2]
          have := HX.out.set 2 (.int .i64 (m : Int))
          rw [poolC_last] at this
          exact this.alloc _
        have HU2 : Hid (Box W2 wr.heap.size 43 [.int .i64 a, .int .i64 b1, .int .i64 (m : Int), .int .i64 f, .int .i64 g]) := by
          rw [← hW2]
          have := Box.new (wr.setCell ⟨N, 2, none⟩ (.int .i64 (m : Int))) [.int .i64 a, .int .i64 b1, .int .i64 (m : Int), .int .i64 f, .int .i64 g] 43
          rwa [World.size_setCell] at this
        have HB2 : Below w.heap.size w W2 := hW2 ▸ (hbel.setCell (by exact hNw) _).alloc (by simp [World.size_setCell]; exact hbel.size) _
        have HZ2 := Lib.hid (show W2.heap.size = wr.heap.size + 1 by rw [← hW2]; simp [World.size_setCell])
        rw [hW2]
        clear hW2 x2 xf h0 h1 h2 h3 h4 HX
        have y2 := cell_regrown (HX2.out.cell (j := 2) rfl)
        have yq := cell_regrown (HX2.out.cell Hq.out)
        obtain ⟨v0, v1, v2, v3, v4⟩ := HU2.out.c5
        have z0 := cell_regrown v0
        have z1 := cell_regrown v1
        have z2 := cell_regrown v2
        have z3 := cell_regrown v3
        have z4 := cell_regrown v4
        clear v0 v1 v2 v3 v4
        cases q
        · refine wp_region_mix (C := fun w' => ∃ p : Regrown, w' = grow (redrawn W2 p.d) p.os) [(0, 0), (1, 0), (2, 0), (3, 0), (4, 0), (5, 0), (6, 0), (7, 0), (8, 0), (9, 0), (10, 0), (11, 0), (12, 0), (13, 0), (14, 0), (15, 0), (16, 0), (19, 0), (20, 0), (17, 1), (18, 0), (21, 0)] 22 (by kernel_rfl) (by kernel_rfl) (grew_drew _) ?_
          repeat (refine mix_q rfl rfl ?_; first | go_big_quiet_skip | (go_big_quiet_want; go_big_quiet_op; go_big_quiet_on); refine wpQuiet_nil ?_)
          refine mix_e rfl ?_
          go_wp2_with fail
          refine (covers_any _ _ _ _ _ _ _).mono ?_
          rintro e W3 ⟨rfl, hb3⟩
          have hb3' : Below W2.heap.size W2 W3 := ⟨hb3.os, hb3.tape, hb3.output, hb3.size, hb3.block⟩
          have HX3 := Lib.hid (HX2.out.below hb3')
          have HB3 : Below w.heap.size w W3 := after0 HB2 hb3'
          have x3 := HX3.out.cell Hq.out
          have xf := HX3.out.frozen
          clear hb3
          go_wp2_with fail
          refine MixPost.intro (grew_of_below hb3') ?_
          clear hb3'
          repeat (refine mix_q rfl rfl ?_; first | go_big_quiet_skip | (go_big_quiet_want; go_big_quiet_op; go_big_quiet_on); refine wpQuiet_nil ?_)
          refine wpMix_nil ?_
          simp only [List.drop_succ_cons, List.drop_zero]
          clear y2 yq z0 z1 z2 z3 z4
          go_wp2_with fail
          refine NoPanic.normal ?_
          go_wp2
          go_roundw
          case rel =>
            refine ⟨k + 1, by omega, by go_num, HB3.setCell (by exact hNw) _, ?_⟩
            show Box _ _ _ _
            rw [HT.out, HLA2.out, HUS2.out]
            have := HX3.out.set (3 + m) (.bool (covI f g now))
            rw [poolC_set] at this
            simpa using this
          case measure => simp [intOf]; omega
        · refine wp_region_mix (C := fun w' => ∃ p : Regrown, w' = grow (redrawn W2 p.d) p.os) [(0, 0), (1, 0), (2, 0), (3, 0), (4, 0), (5, 0), (6, 0), (7, 0), (8, 0), (9, 0), (10, 0), (11, 0), (12, 0), (13, 0), (14, 0), (15, 0), (16, 0), (19, 0), (20, 0), (17, 1), (18, 0), (21, 0)] 22 (by kernel_rfl) (by kernel_rfl) (grew_drew _) ?_
          repeat (refine mix_q rfl rfl ?_; first | go_big_quiet_skip | (go_big_quiet_want; go_big_quiet_op; go_big_quiet_on); refine wpQuiet_nil ?_)
          refine mix_e rfl ?_
          go_wp2_with fail
          refine MixPost.intro (grew_drew _) ?_
          repeat (refine mix_q rfl rfl ?_; first | go_big_quiet_skip | (go_big_quiet_want; go_big_quiet_op; go_big_quiet_on); refine wpQuiet_nil ?_)
          refine wpMix_nil ?_
          simp only [List.drop_succ_cons, List.drop_zero]
          have HX3 := HX2
          have HB3 := HB2
          have x3 := HX3.out.cell Hq.out
          have xf := HX3.out.frozen
          clear y2 yq z0 z1 z2 z3 z4
          go_wp2_with fail
          refine NoPanic.normal ?_
          go_wp2
          go_roundw
          case rel =>
            refine ⟨k + 1, by omega, by go_num, (HB3.setCell (p := ⟨N, 3 + m, none⟩) hNw _).drew, ?_⟩
            show Box _ _ _ _
            rw [HT.out, HLA2.out, HUS2.out]
            have := HX3.out.set (3 + m) (.bool true)
            rw [poolC_set] at this
            exact Box.drew (by simpa using this)
          case measure => simp [intOf]; omega
      · have HLA2 := Lib.hid (HLA.out.trans (if_neg hm))
        have HUO2 := Lib.hid (HUO.out hm)
        have HEND : Hid (∀ W, Below wr.heap.size wr W → Box W N 92 (poolC st kd (lastNu (l.take (k + 1)) st kd) (usedL (l.take (k + 1)) st kd now))) := fun W hW => by
          rw [HT.out, HLA2.out, HUO2.out]; exact HX.out.below hW
        clear HLA HUS HUO HLA2 HUO2
        by_cases ha : a = st
        · have hb' : (b1 == kd) = false := beq_eq_false_iff_ne.2 (fun e => hm ⟨ha, e⟩)
          subst ha
          clear hm
          go_wp2
          go_roundw
          case rel => exact ⟨k + 1, by omega, by go_num, grew1 hbel, HEND.out _ (grew1 (Below.refl _ _))⟩
          case measure => simp [intOf]; omega
        · have ha' : (a == st) = false := beq_eq_false_iff_ne.2 ha
          clear hm ha
          go_wp2
          go_roundw
          case rel => exact ⟨k + 1, by omega, by go_num, grew1 hbel, HEND.out _ (grew1 (Below.refl _ _))⟩
          case measure => simp [intOf]; omega
    · have HT : Hid (l.take k = l) := List.take_of_length_le (by omega)
      go_wp2
      go_ret2
      refine ⟨N, rfl, hNw, ?_, hbel⟩
      have := HX.out
      rwa [HT.out] at this
end Go.Proofs.YtpdecgbfnhaojaaGreat
