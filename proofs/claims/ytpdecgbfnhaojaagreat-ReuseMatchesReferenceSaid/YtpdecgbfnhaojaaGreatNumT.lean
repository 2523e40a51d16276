/-
  The reference functions of 'number': Valid, Time, Covers, Row, Same.
-/
import Derived.Test.YtpdecgbfnhaojaaGreatNumB
import Derived.Test.YtpdecgbfnhaojaaGreatPlan
namespace Go.Proofs.YtpdecgbfnhaojaaGreat
open Go.RowKit Nb Sk Go.Sort

theorem rvalid_any (s k m : Int) (w : World) : Calls Tryz.prog 43 #[.agg #[.int .i64 s, .int .i64 k, .int .i64 m]] w (Ret w (.bool (okN ⟨s, k, m⟩))) := by
  go_enter Tryz.func43, Tryz.ntmps43
  go_wp2
  all_goals
    go_ret
    refine ⟨ret_bool ?_, grew1 (Below.refl _ _)⟩
    simp [okN]; omega
theorem rtime_any (t : Int) (w : World) : Calls Tryz.prog 67 #[.int .i64 t] w (Ret w (.bool (tm t))) := by
  go_enter Tryz.func67, Tryz.ntmps67
  go_wp2
  all_goals
    go_ret
    refine ⟨ret_bool ?_, Below.refl _ _⟩
    simp [tm]; omega
theorem rcovers_any (a b c d f t : Int) (w : World) : Calls Tryz.prog 37 #[.agg #[.int .i64 a, .int .i64 b, .int .i64 c, .int .i64 d, .int .i64 f], .int .i64 t] w (Ret w (.bool (covI d f t))) := by
  go_enter Tryz.func37, Tryz.ntmps37
  go_wp2
  all_goals
    go_ret
    refine ⟨ret_bool ?_, grew1 (Below.refl _ _)⟩
    simp [covI]; omega
/-- a valid row, alone -/
def rowI (a b c d f : Int) : Bool := okN ⟨a, b, c⟩ && tm d && tm f && decide (d < f)
theorem rrow_any (a b c d f : Int) (w : World) : Calls Tryz.prog 81 #[.agg #[.int .i64 a, .int .i64 b, .int .i64 c, .int .i64 d, .int .i64 f]] w (Ret w (.bool (rowI a b c d f))) := by
  obtain ⟨W0, hW0, HB_W0, hZ, hn⟩ := boxes1 w [.int .i64 a, .int .i64 b, .int .i64 c, .int .i64 d, .int .i64 f] 43
  have H_n := Lib.hid hn
  clear hn
  obtain ⟨q_n_0, q_n_1, q_n_2, q_n_3, q_n_4⟩ := H_n.out.c5
  obtain ⟨p, hp⟩ : ∃ p, rowI a b c d f = p := ⟨_, rfl⟩
  have HP := Lib.hid (show (okN ⟨a, b, c⟩ && tm d && tm f && decide (d < f)) = p from hp)
  rw [hp]
  clear hp
  go_enter Tryz.func81, Tryz.ntmps81
  go_wp2_with fail
  refine (rvalid_any _ _ _ _).mono ?_
  rintro e wa ⟨rfl, hb_wa⟩
  have HB_wa : Below w.heap.size w wa := by first | exact after0 HB_W0 hb_wa | exact after1 HB_W0 hb_wa | exact after2 HB_W0 hb_wa | exact after3 HB_W0 hb_wa | exact after4 HB_W0 hb_wa | exact after5 HB_W0 hb_wa
  try clear q_n_0 q_n_1 q_n_2 q_n_3 q_n_4
  have H_n := Lib.hid (Box.below (by first | exact H_n.out | exact H_n.out.alloc _ | exact (H_n.out.alloc _).alloc _ | exact ((H_n.out.alloc _).alloc _).alloc _) hb_wa)
  obtain ⟨q_n_0, q_n_1, q_n_2, q_n_3, q_n_4⟩ := H_n.out.c5
  clear hW0
  cases h1 : okN ⟨a, b, c⟩
  · go_wp2_with fail
    go_ret
    exact ⟨ret_bool' (by rw [← HP.out, h1]; rfl), HB_wa⟩
  go_wp2_with fail
  refine (rtime_any _ _).mono ?_
  rintro e wb ⟨rfl, hb_wb⟩
  have HB_wb : Below w.heap.size w wb := by first | exact after0 HB_wa hb_wb | exact after1 HB_wa hb_wb | exact after2 HB_wa hb_wb | exact after3 HB_wa hb_wb | exact after4 HB_wa hb_wb | exact after5 HB_wa hb_wb
  try clear q_n_0 q_n_1 q_n_2 q_n_3 q_n_4
  have H_n := Lib.hid (Box.below (by first | exact H_n.out | exact H_n.out.alloc _ | exact (H_n.out.alloc _).alloc _ | exact ((H_n.out.alloc _).alloc _).alloc _) hb_wb)
  obtain ⟨q_n_0, q_n_1, q_n_2, q_n_3, q_n_4⟩ := H_n.out.c5
  cases h2 : tm d
  · go_wp2_with fail
    go_ret
    exact ⟨ret_bool' (by rw [← HP.out, h1, h2]; rfl), HB_wb⟩
  go_wp2_with fail
  refine (rtime_any _ _).mono ?_
  rintro e wc ⟨rfl, hb_wc⟩
  have HB_wc : Below w.heap.size w wc := by first | exact after0 HB_wb hb_wc | exact after1 HB_wb hb_wc | exact after2 HB_wb hb_wc | exact after3 HB_wb hb_wc | exact after4 HB_wb hb_wc | exact after5 HB_wb hb_wc
  try clear q_n_0 q_n_1 q_n_2 q_n_3 q_n_4
  have H_n := Lib.hid (Box.below (by first | exact H_n.out | exact H_n.out.alloc _ | exact (H_n.out.alloc _).alloc _ | exact ((H_n.out.alloc _).alloc _).alloc _) hb_wc)
  obtain ⟨q_n_0, q_n_1, q_n_2, q_n_3, q_n_4⟩ := H_n.out.c5
  cases h3 : tm f
  · go_wp2_with fail
    go_ret
    exact ⟨ret_bool' (by rw [← HP.out, h1, h2, h3]; rfl), HB_wc⟩
  go_wp2_with fail
  go_ret
  exact ⟨ret_bool' (by rw [← HP.out, h1, h2, h3]; rfl), HB_wc⟩

set_option maxRecDepth 100000 in
theorem eql_name (a b c a' b' c' : Int) (w : World) : (binOp .eql 29 (.agg #[.int .i64 a, .int .i64 b, .int .i64 c]) (.agg #[.int .i64 a', .int .i64 b', .int .i64 c'])).run Tryz.prog w = .ok (.bool (decide ((⟨a, b, c⟩ : Nm) = ⟨a', b', c'⟩))) w := by
  by_cases h1 : a = a'
  · by_cases h2 : b = b'
    · by_cases h3 : c = c' <;> simp [go_sem, *]
    · simp [go_sem, *]
  · simp [go_sem, *]
set_option maxRecDepth 100000 in
theorem neq_used (a b c d e a' b' c' d' e' : Int) (w : World) : (binOp .neq 43 (.agg #[.int .i64 a, .int .i64 b, .int .i64 c, .int .i64 d, .int .i64 e]) (.agg #[.int .i64 a', .int .i64 b', .int .i64 c', .int .i64 d', .int .i64 e'])).run Tryz.prog w = .ok (.bool (!decide ((⟨⟨a, b, c⟩, d, e⟩ : Us) = ⟨⟨a', b', c'⟩, d', e'⟩))) w := by
  by_cases h1 : a = a'
  · by_cases h2 : b = b'
    · by_cases h3 : c = c'
      · by_cases h4 : d = d'
        · by_cases h5 : e = e' <;> simp [go_sem, *]
        · simp [go_sem, *]
      · simp [go_sem, *]
    · simp [go_sem, *]
  · simp [go_sem, *]

set_option maxRecDepth 100000 in
set_option maxHeartbeats 1000000 in
theorem rsame_any (ao bo : Option Addr) (n cap m capb : Nat) (l k : List Us) (w : World) (hs : Sl w 5 cU ao n cap l) (ht : Sl w 5 cU bo m capb k) :
    Calls Tryz.prog 12 #[.slice ao n cap, .slice bo m capb] w (Ret w (.bool (decide (l = k)))) := by
  obtain rfl := hs.len
  obtain rfl := ht.len
  have hcap := hs.max
  have hle := hs.le
  have hcapb := ht.max
  have hleb := ht.le
  unfold maxLen at hcap hcapb
  have HL := Lib.hid hs
  have HK := Lib.hid ht
  clear hs ht
  by_cases hlen : l.length = k.length
  · have HLN := Lib.hid hlen
    go_enter Tryz.func12, Tryz.ntmps12
    go_wp2_with fail
    clear hlen
    go_loopw [5] (fun i wr => ∃ j : Nat, j ≤ l.length ∧ i = .int .i64 j ∧ Below w.heap.size w wr ∧ Hid (∀ x (h1 : x < l.length) (h2 : x < k.length), x < j → l[x] = k[x])) (fun i _ => l.length - (intOf i).toNat)
    case atStart => exact ⟨0, by omega, rfl, Below.refl _ _, fun x _ _ h => absurd h (Nat.not_lt_zero _)⟩
    case round =>
      obtain ⟨j, hj, rfl, HB_wr, HE⟩ := hrel
      by_cases hjl : j < l.length
      · have hjk : j < k.length := by have := HLN.out; omega
        obtain ⟨b, off, rfl, hb, hrow⟩ := HL.out.get hjl
        obtain ⟨b', off', rfl, hb', hrow'⟩ := HK.out.get hjk
        obtain ⟨e0, e1, e2, e3, e4⟩ := ((hrow j hjl).below HB_wr hb).c5
        obtain ⟨f0, f1, f2, f3, f4⟩ := ((hrow' j hjk).below HB_wr hb').c5
        clear hrow hrow'
        have HX : Hid (∀ q : Bool, decide (l[j] = k[j]) = q → (q = true → ∀ x (h1 : x < l.length) (h2 : x < k.length), x < j + 1 → l[x] = k[x]) ∧ (q = false → l ≠ k)) := by
          intro q hq
          refine ⟨fun hq' x h1 h2 h => ?_, fun hq' he => ?_⟩
          · by_cases hxj : x = j
            · subst hxj; subst hq'; exact of_decide_eq_true hq
            · exact HE.out x h1 h2 (by omega)
          · subst hq'; subst he; exact absurd rfl (of_decide_eq_false hq)
        clear HE
        generalize l[j] = u at *
        generalize k[j] = v at *
        obtain ⟨⟨a, b1, c⟩, f, g⟩ := u
        obtain ⟨⟨a', b1', c'⟩, f', g'⟩ := v
        dsimp only at e0 e1 e2 e3 e4 f0 f1 f2 f3 f4
        have hq := neq_used a b1 c f g a' b1' c' f' g'
        generalize decide ((⟨⟨a, b1, c⟩, f, g⟩ : Us) = ⟨⟨a', b1', c'⟩, f', g'⟩) = q at *
        have HX2 := Lib.hid (HX.out q rfl)
        clear HX
        go_wp2_with fail
        have y0 := cell_regrown e0
        have y1 := cell_regrown e1
        have y2 := cell_regrown e2
        have y3 := cell_regrown e3
        have y4 := cell_regrown e4
        have z0 := cell_regrown f0
        have z1 := cell_regrown f1
        have z2 := cell_regrown f2
        have z3 := cell_regrown f3
        have z4 := cell_regrown f4
        clear e0 e1 e2 e3 e4 f0 f1 f2 f3 f4
        refine wp_region_plan (C := fun w' => ∃ p : Regrown, w' = grow (redrawn wr p.d) p.os) (.q 0 (.q 1 (.q 2 (.q 3 (.q 4 (.q 5 (.q 6 (.q 7 (.q 8 (.done)))))))))) 9 (by kernel_rfl) (by kernel_rfl) (grew_drew _) ?_
        repeat (any_goals (first | (go_big_quiet_skip; refine wpQuiet_nil ?_) | (go_big_quiet_want; go_big_quiet_op; go_big_quiet_on; refine wpQuiet_nil ?_) | ((with_reducible apply q_split); exact rfl; intro q hq; cases q <;> (rw [hq]; (try first | replace hq := bnot_t hq | replace hq := bnot_f hq); (try first | replace hq := of_decide_eq_true hq | replace hq := of_decide_eq_false hq | replace hq := eq_of_beq hq); (try first | replace hq := Int.not_lt.1 hq | replace hq := Int.not_le.1 hq | replace hq := Nat.not_lt.1 hq | replace hq := Nat.not_le.1 hq); try (exfalso; omega))) | (refine plan_q rfl rfl ?_)))
        clear y0 y1 y2 y3 y4 z0 z1 z2 z3 z4 hq
        cases q
        · have HX3 : Hid (l ≠ k) := HX2.out.2 rfl
          clear HX2
          all_goals refine plan_done ?_
          all_goals (try simp only [List.drop_succ_cons, List.drop_zero])
          all_goals (try go_wp2_with fail)
          all_goals refine NoPanic.normal ?_
          all_goals (try go_wp2_with fail)
          go_ret
          exact ⟨ret_bool' (decide_eq_false HX3.out).symm, HB_wr.drew⟩
        · have HX3 := Lib.hid (HX2.out.1 rfl)
          clear HX2
          all_goals refine plan_done ?_
          all_goals (try simp only [List.drop_succ_cons, List.drop_zero])
          all_goals (try go_wp2_with fail)
          all_goals refine NoPanic.normal ?_
          all_goals (try go_wp2_with fail)
          go_roundw
          case rel => exact ⟨j + 1, by omega, by go_num, HB_wr.drew, HX3⟩
          case measure => simp [intOf]; omega
      · have HX : Hid (l = k) := List.ext_getElem HLN.out fun x h1 h2 => HE.out x h1 h2 (by omega)
        clear HE
        go_wp2_with fail
        go_ret
        exact ⟨ret_bool' (decide_eq_true HX.out).symm, HB_wr⟩
  · have HX : Hid (l ≠ k) := fun e => hlen (by rw [e])
    go_enter Tryz.func12, Tryz.ntmps12
    go_wp2_with fail
    go_ret
    exact ⟨ret_bool' (decide_eq_false HX.out).symm, Below.refl _ _⟩
end Go.Proofs.YtpdecgbfnhaojaaGreat
