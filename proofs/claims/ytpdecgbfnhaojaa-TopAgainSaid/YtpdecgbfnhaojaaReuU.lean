/-
  The walk of 'TopAgain'.
-/
import Derived.Test.YtpdecgbfnhaojaaReuT
import Derived.Test.YtpdecgbfnhaojaaReuK
set_option linter.unusedVariables false
namespace Go.Proofs.Ytpdecgbfnhaojaa
open Go.RowKit Nb Sk Ck Ru Go.Sort

abbrev A3 := Int × Int × Int
abbrev cA (x : A3) : List Value := [.int .i64 x.1, .int .i64 x.2.1, .int .i64 x.2.2]

theorem eqn_name {a b c a' b' c' : Int} (h : (⟨a, b, c⟩ : Nm) = ⟨a', b', c'⟩) : a = a' ∧ b = b' ∧ c = c' := by simpa using h
theorem rem_ok {a : Int} (h : 0 ≤ a) : 0 ≤ a % 10000000 ∧ a % 10000000 < 10000000 := by omega

theorem own_ne_own {α β : Type} {w : World} {b1 e1 s1 b2 e2 s2 : Nat} {enc1 : α → List Value} {enc2 : β → List Value} {v1 v2 : Value} {ys1 : List α} {ys2 : List β} (h1 : OwnL w b1 e1 s1 enc1 v1 ys1) (h2 : OwnL w b2 e2 s2 enc2 v2 ys2) (hT : e1 ≠ e2) :
    ∀ g, v1.ownBlock = some g → some g ≠ v2.ownBlock := by
  intro g hg he
  rcases h1.2 with hn | ⟨g1, cap1, cur1, rfl, _, hgg1, _⟩
  · rw [hn.1] at hg; simp [Value.ownBlock] at hg
  rcases h2.2 with hn | ⟨g2, cap2, cur2, rfl, _, hgg2, _⟩
  · rw [hn.1] at he; simp [Value.ownBlock] at he
  simp [Value.ownBlock] at hg he
  subst hg
  subst he
  rw [hgg1] at hgg2
  simp at hgg2
  exact hT hgg2.2
theorem own_grown {α : Type} {w w' : World} {base e size : Nat} {enc : α → List Value} {v : Value} {ys : List α} {row : Option Nat} (h : OwnL w base e size enc v ys) (hg : w.grownBy w' row) (hn : ∀ g, v.ownBlock = some g → some g ≠ row) : OwnL w' base e size enc v ys := by
  refine ⟨h.1, ?_⟩
  rcases h.2 with hn' | ⟨g, cap, cur, rfl, hbg, hgg, rest⟩
  · exact .inl hn'
  · exact .inr ⟨g, cap, cur, rfl, hbg, (hg.block g (Array.getElem?_eq_some_iff.1 hgg).1 (hn g rfl)).trans hgg, rest⟩
theorem own_sl {w : World} {base e : Nat} {ao : Option Addr} {n cap : Nat} {l : List Us} (h : OwnL w base e 5 cU (.slice ao n cap) l) : Sl w 5 cU ao n cap l := by
  obtain ⟨ao', cap', he, hs⟩ := h.sl cU_len
  simp only [Value.slice.injEq] at he
  obtain ⟨rfl, rfl, rfl⟩ := he
  exact hs
theorem take_own {st kd now u k n1 n2 n3 q : Int} {ao : Option Addr} {n cap : Nat} {w : World} {l l' : List Us} {co : Option Addr} {cn cc : Nat} {cs : List Clk} (h : takeR l st kd now u k cs = (l', ⟨n1, n2, n3⟩, q)) (hs : Sl w 5 cU ao n cap l) (hc : Sl w 4 cC co cn cc cs) :
    Calls Try.prog 15 #[.slice ao n cap, .int .i64 st, .int .i64 kd, .int .i64 now, .int .i64 u, .int .i64 k, .slice co cn cc] w
      (fun e w' => ∃ ao' n' cap', e = .returned (.tuple #[.slice ao' n' cap', .agg #[.int .i64 n1, .int .i64 n2, .int .i64 n3], .int .i64 q]) ∧ OwnL w' 0 37 5 cU (.slice ao' n' cap') l' ∧ Below w.heap.size w w') := by
  have := Take_any ao n cap l st kd now u k co cn cc cs w hs hc
  rw [h] at this
  exact this.mono fun e w' ⟨a, b, c, h1, h2, h3, h4⟩ => ⟨a, b, c, h1, by have h5 := owns_mono h3 (Nat.zero_le _); unfold OwnL; dsimp only at h2 h5; rw [h2.len]; exact h5, h4⟩

set_option maxRecDepth 100000 in
set_option maxHeartbeats 16000000 in
theorem again_walk (hso : SortOk) (ao : Option Addr) (n cap : Nat) (l : List A3) (keep later : Int) (co : Option Addr) (cn cc : Nat) (cs : List Clk) (w : World) (hs : Sl w 3 cA ao n cap l) (hc : Sl w 4 cC co cn cc cs) :
    Calls Try.prog 10 #[.slice ao n cap, .int .i64 keep, .int .i64 later, .slice co cn cc] w (Ret w (.bool true)) := by
  have HB_w : Below w.heap.size w w := Below.refl _ _
  obtain rfl := hs.len
  obtain rfl := hc.len
  have hcap := hs.max
  have hle := hs.le
  have hcapc := hc.max
  have hlec := hc.le
  unfold maxLen at hcap hcapc
  have HS := Lib.hid hs
  have HCS := Lib.hid hc
  have HSO := Lib.hid hso
  clear hs hc hso
  by_cases hg : l.length ≤ 140 ∧ cs.length ≤ 4 ∧ 0 ≤ later
  case neg =>
    have hg1 : 140 < (l.length : Int) ∨ ((l.length : Int) ≤ 140 ∧ 4 < (cs.length : Int)) ∨ ((l.length : Int) ≤ 140 ∧ (cs.length : Int) ≤ 4 ∧ later < 0) := by omega
    clear hg
    rcases hg1 with g1 | ⟨g1, g2⟩ | ⟨g1, g2, g3⟩
    all_goals
      go_enter Try.func10, Try.ntmps10
      go_wp2_with fail
      refine (headT_any _).mono ?_
      rintro e wa ⟨rfl, hb_wa⟩
      have HB_wa : Below w.heap.size w wa := by first | exact after0 HB_w hb_wa | exact after1 HB_w hb_wa | exact after2 HB_w hb_wa | exact after3 HB_w hb_wa | exact after4 HB_w hb_wa | exact after5 HB_w hb_wa
      go_wp2_with fail
      all_goals try (exfalso; omega)
      go_ret
      exact ⟨rfl, HB_wa⟩
  obtain ⟨g1, g2, g3⟩ := hg
  have g1i : (l.length : Int) ≤ 140 := by omega
  have g2i : (cs.length : Int) ≤ 4 := by omega
  obtain ⟨i0, hi, hz0, hz1, hz2⟩ := info_parts info_int
  have HI := Lib.hid hi
  have HZ0 := Lib.hid hz0
  have HZ1 := Lib.hid hz1
  have HZ2 := Lib.hid hz2
  clear hi hz0 hz1 hz2
  go_enter Try.func10, Try.ntmps10
  go_wp2_with fail
  refine (headT_any _).mono ?_
  rintro e wa ⟨rfl, hb_wa⟩
  have HB_wa : Below w.heap.size w wa := by first | exact after0 HB_w hb_wa | exact after1 HB_w hb_wa | exact after2 HB_w hb_wa | exact after3 HB_w hb_wa | exact after4 HB_w hb_wa | exact after5 HB_w hb_wa
  replace HS := Lib.hid (show Sl wa _ _ _ _ _ _ by first | exact HS.out.below hb_wa | exact (HS.out.below (grew1 (Below.refl _ _))).below hb_wa | exact (HS.out.below (grew2 (Below.refl _ _))).below hb_wa | exact (HS.out.below (grew3 (Below.refl _ _))).below hb_wa)
  replace HCS := Lib.hid (show Sl wa _ _ _ _ _ _ by first | exact HCS.out.below hb_wa | exact (HCS.out.below (grew1 (Below.refl _ _))).below hb_wa | exact (HCS.out.below (grew2 (Below.refl _ _))).below hb_wa | exact (HCS.out.below (grew3 (Below.refl _ _))).below hb_wa)
  go_wp2_with fail
  go_loopw [9, 10, 11, 42] (fun up rv uv i wr => ∃ (k : Nat) (ro : Option Addr) (rn rc : Nat) (rows_ : List Us) (unt : List Int), k ≤ l.length ∧ i = .int .i64 k ∧ up = .bool true ∧ rv = .slice ro rn rc ∧ Below wa.heap.size wa wr ∧ Hid (OwnL wr 0 37 5 cU (.slice ro rn rc) rows_) ∧ Hid (OwnL wr wa.heap.size 3 1 cI uv unt) ∧ Hid (Kept keep cs rows_ unt) ∧ rn ≤ k) (fun _ _ _ i _ => l.length - (intOf i).toNat)
  case atStart => exact ⟨0, none, 0, 0, [], [], by omega, rfl, rfl, rfl, Below.refl _ _, OwnL.nil, OwnL.nil, Kept.nil _ _, by omega⟩
  case round =>
    obtain ⟨k, ro, rn, rc, rows_, unt, hk, rfl, rfl, rfl, HB_wr, HRO, HU, HK, hrk⟩ := hrel
    have HR := Lib.hid (own_sl HRO.out)
    by_cases hlt : k < l.length
    case neg =>
      obtain rfl : k = l.length := by omega
      have HRR := Lib.hid (rrows_any ro rn rc rows_ wr HR.out)
      rw [rows_iff.2 HK.out.ok] at HRR
      go_wp2_with fail
      refine HRR.out.mono ?_
      rintro e w2 ⟨rfl, hb2⟩
      go_wp2_with fail
      go_ret
      exact ⟨rfl, after0 HB_wa (after0 HB_wr hb2)⟩
    obtain ⟨b, off, rfl, hb, hrow⟩ := HS.out.get hlt
    obtain ⟨e_0, e_1, e_2⟩ := ((hrow k hlt).below HB_wr hb).c3
    clear hrow
    generalize l[k] = x at *
    obtain ⟨now, u, kd⟩ := x
    dsimp only at e_0 e_1 e_2
    obtain ⟨l', y1, y2, y3, e, ht⟩ : ∃ l' y1 y2 y3 e, takeR rows_ 1 kd now u keep cs = (l', ⟨y1, y2, y3⟩, e) := ⟨_, _, _, _, _, rfl⟩
    have HSTEP := HK.out.step ht
    have HT := Lib.hid ht
    clear ht
    obtain ⟨W1, hW1, hB1, hZ1, hb1⟩ := boxes1 wr [.int .i64 now, .int .i64 u, .int .i64 kd] 61
    have H_x := Lib.hid hb1
    have HB_W1 : Below wa.heap.size wa W1 := after0 HB_wr hB1
    have HR1 := Lib.hid (HR.out.below hB1)
    have HRO1 := Lib.hid (HRO.out.below hB1)
    have HU1 := Lib.hid (HU.out.below hB1)
    clear hb1 hZ1 hB1 HR HU HRO
    obtain ⟨q_x_0, q_x_1, q_x_2⟩ := H_x.out.c3
    go_wp2_with fail
    refine (take_own HT.out HR1.out (HCS.out.below HB_W1)).mono ?_
    rintro e' w2 ⟨ro2, rn2, rc2, rfl, hl2, hb2⟩
    have HB_w2 : Below wa.heap.size wa w2 := after0 HB_W1 hb2
    have HLO := Lib.hid hl2
    have HL := Lib.hid (own_sl hl2)
    replace H_x := Lib.hid (H_x.out.below hb2)
    have HR2 := Lib.hid (HR1.out.below hb2)
    have HRO2 := Lib.hid (HRO1.out.below hb2)
    have HU2 := Lib.hid (HU1.out.below hb2)
    clear hl2 hb2 hW1 HR1 HU1 HRO1 q_x_0 q_x_1 q_x_2 e_0 e_1 e_2 HT
    obtain ⟨W3, hW3, hB3, hZ3, hb3⟩ := boxes1 w2 [.int .i64 y1, .int .i64 y2, .int .i64 y3] 31
    have H_y := Lib.hid hb3
    have HB_W3 : Below wa.heap.size wa W3 := after0 HB_w2 hB3
    replace HL := Lib.hid (HL.out.below hB3)
    replace HLO := Lib.hid (HLO.out.below hB3)
    replace HRO2 := Lib.hid (HRO2.out.below hB3)
    replace H_x := Lib.hid (H_x.out.below hB3)
    replace HR2 := Lib.hid (HR2.out.below hB3)
    replace HU2 := Lib.hid (HU2.out.below hB3)
    clear hb3 hZ3 hB3
    obtain ⟨q_x_0, q_x_1, q_x_2⟩ := H_x.out.c3
    obtain ⟨q_y_0, q_y_1, q_y_2⟩ := H_y.out.c3
    rcases HSTEP with hne | ⟨rfl, htm, bb, hl', hbn, hbf, HK2, HOLD⟩
    · have hne1 : (e != 0) = true := bne_iff_ne.2 hne
      clear hne
      go_wp2_with fail
      all_goals try (exfalso; omega)
      go_roundw
      case rel => exact ⟨k + 1, ro, rn, rc, rows_, unt, by omega, by go_num, rfl, rfl, HB_W3, HRO2, HU2, HK, by omega⟩
      case measure => simp [intOf]; omega
    have hrl := HR2.out.len
    have hn2 : rn2 = rn + 1 := by have := HL.out.len; rw [← this, hl', List.length_append, hrl]; simp
    subst hn2
    have hcap2 := HL.out.max
    have hle2 := HL.out.le
    have hln2 := HL.out.len
    rw [hln2] at hle2
    unfold maxLen at hcap2
    have hgt : l'[rn]? = some bb := by rw [hl']; simp [← hrl]
    obtain ⟨⟨z1, z2, z3⟩, zf, fe⟩ := bb
    dsimp only at hbn hbf
    obtain ⟨rfl, rfl, rfl⟩ := eqn_name hbn
    subst hbf
    obtain ⟨b2, off2, rfl, hb2, hrow2⟩ := HL.out.get (i := rn) (by omega)
    have hR2 := hrow2 rn (by omega)
    rw [show l'[rn]'(by omega) = ⟨⟨z1, z2, z3⟩, zf, fe⟩ from by rw [List.getElem?_eq_getElem (by omega)] at hgt; exact Option.some.inj hgt] at hR2
    obtain ⟨f_0, f_1, f_2, f_3, f_4⟩ := hR2.c5
    have HKN := Lib.hid HK2
    have HO := Lib.hid HOLD
    have HLN := Lib.hid hln2
    have HRL := Lib.hid hrl
    have hz1 : (((rn + 1 : Nat) : Int) != (rn : Int) + 1) = false := by simp
    have hz2 : (((rn + 1 : Nat) : Int) == 0) = false := beq_eq_false_iff_ne.2 (by omega)
    have hlt2 : rn < rn + 1 := by omega
    obtain ⟨htm1, htm2⟩ := tm_iff.1 htm
    clear hR2 hrow2 hgt hl' hbn HK2 HOLD hln2 hrl htm HK
    obtain ⟨W5, hW5, hB5, hZ5, hb5⟩ := boxes1 W3 [.int .i64 z1, .int .i64 z2, .int .i64 z3, .int .i64 zf, .int .i64 fe] 37
    have H_o := Lib.hid hb5
    have HB_W5 : Below wa.heap.size wa W5 := after0 HB_W3 hB5
    replace HL := Lib.hid (HL.out.below hB5)
    replace HLO := Lib.hid (HLO.out.below hB5)
    replace H_x := Lib.hid (H_x.out.below hB5)
    replace H_y := Lib.hid (H_y.out.below hB5)
    have HR := Lib.hid (HR2.out.below hB5)
    have HU := Lib.hid (HU2.out.below hB5)
    have HC5 := Lib.hid (HCS.out.below HB_W5)
    clear hb5 hZ5 hB5 HR2 HU2
    obtain ⟨q_o_0, q_o_1, q_o_2, q_o_3, q_o_4⟩ := H_o.out.c5
    obtain ⟨r_0, r_1, r_2⟩ := H_x.out.c3
    obtain ⟨s_0, s_1, s_2⟩ := H_y.out.c3
    have hul : unt.length = rn := by have h := HKN.out.len; rw [HLN.out] at h; simpa using h
    obtain ⟨uo, uc, rfl, hus⟩ := HU.out.sl cI_len
    have HUS := Lib.hid hus
    have HUL := Lib.hid hul
    clear hus hul
    go_wp2_with fail
    clear f_0 f_1 f_2 f_3 f_4 q_x_0 q_x_1 q_x_2 q_y_0 q_y_1 q_y_2 hW3 hW5 r_0 r_1 r_2 s_0 s_1 s_2 q_o_0 q_o_1 q_o_2 q_o_3 q_o_4 hz1 hz2 H_o HRO2
    go_loopw [9, 95] (fun up i wq => ∃ j : Nat, j ≤ rn ∧ i = .int .i64 j ∧ up = .bool true ∧ Below W5.heap.size W5 wq) (fun _ i _ => rn - (intOf i).toNat)
    case atStart => exact ⟨0, by omega, rfl, rfl, Below.refl _ _⟩
    case round =>
      obtain ⟨j, hj, rfl, rfl, HB_q⟩ := hrel
      obtain ⟨wq, rfl⟩ : ∃ wo : World, wo = wr := ⟨_, rfl⟩
      have HB_Q : Below wa.heap.size wa wq := after0 HB_W5 HB_q
      by_cases hjl : j < rn
      case neg =>
        obtain rfl : j = rn := by omega
        have HUq := Lib.hid (HU.out.below HB_q)
        have HLq := Lib.hid (HLO.out.below HB_q)
        obtain ⟨r_0, r_1, r_2⟩ := (H_x.out.below HB_q).c3
        have hu1 : unt.length ≤ 140 := by rw [HUL.out]; omega
        have HOX := Lib.hid (HUq.out.alloc (.cells #[.int .i64 u] 3))
        have HLX := Lib.hid (HLq.out.alloc (.cells #[.int .i64 u] 3))
        have HSX := Lib.hid (Sl.one (x := u) cI_len (Box.new wq (cI u) 3))
        have hsz : wa.heap.size ≤ (wq.alloc (.cells #[.int .i64 u] 3)).heap.size := Nat.le_trans HB_Q.size (by simp)
        go_wp2_with (at_builtin; refine wpList_append_sl rfl _ _ 59 rfl wa.heap.size 3 i0 _ 1 8 Try.underlying59 HI.out HZ0.out HZ1.out HZ2.out rfl (by decide) cI_len cI_one _ unt rfl HOX.out (some ⟨wq.heap.size, 0, none⟩) 1 1 [u] rfl HSX.out (by unfold maxLen; omega) (by omega) hsz ?_)
        rintro v6 w6 ho6 hg6 hgr6
        have HB_w6 : Below wa.heap.size wa w6 := (grew1 HB_Q).trans (hg6 _ (Nat.le_refl _))
        have HO6 := Lib.hid ho6
        have HL6 := Lib.hid (own_grown HLX.out hgr6 (own_ne_own HLX.out HOX.out (by decide)))
        clear ho6 hg6 hgr6 r_0 r_1 r_2
        go_wp2_with fail
        go_roundw
        case rel => exact ⟨k + 1, _, j + 1, rc2, l', unt ++ [u], by omega, by go_num, rfl, rfl, HB_w6, HL6, HO6, HKN, by omega⟩
        case measure => simp [intOf]; omega
      have hjr : j < rows_.length := by rw [HRL.out]; exact hjl
      have hju : j < unt.length := by rw [HUL.out]; exact hjl
      have HOJ := Lib.hid (fun h => HO.out j hjr hju h)
      have HUJ := Lib.hid (show ∃ b off, uo = some ⟨b, off, none⟩ ∧ b < W5.heap.size ∧ Cells W5 b (off + j) [.int .i64 unt[j]] from by
        obtain ⟨b, off, h1, h2, h3⟩ := HUS.out.get (i := j) hju
        have h4 := h3 j hju
        rw [Nat.mul_one] at h4
        exact ⟨b, off, h1, h2, h4⟩)
      have hju2 : j < unt.length := hju
      obtain ⟨b3, off3, hro, hb3, hrow3⟩ := HR.out.get (i := j) hjr
      have HRJ := Lib.hid (hrow3 j hjr)
      generalize unt[j] = uj at *
      generalize rows_[j] = v at *
      obtain ⟨⟨o1, o2, o3⟩, of_, oe⟩ := v
      have HRJ2 : Hid (Cells W5 b3 (off3 + j * 5) [.int .i64 o1, .int .i64 o2, .int .i64 o3, .int .i64 of_, .int .i64 oe]) := HRJ.out
      dsimp only at HOJ
      obtain ⟨v_0, v_1, v_2, v_3, v_4⟩ := (HRJ2.out.below HB_q hb3).c5
      subst hro
      clear hrow3 HRJ
      obtain ⟨W6, hW6, hB6, hZ6, hb6⟩ := boxes1 wq [.int .i64 o1, .int .i64 o2, .int .i64 o3, .int .i64 of_, .int .i64 oe] 37
      have H_v := Lib.hid hb6
      have HB_6 : Below W5.heap.size W5 W6 := after0 HB_q hB6
      clear hb6 hZ6 hB6
      obtain ⟨s_0, s_1, s_2⟩ := (H_y.out.below HB_6).c3
      obtain ⟨q_v_0, q_v_1, q_v_2, q_v_3, q_v_4⟩ := H_v.out.c5
      by_cases hnm : (⟨o1, o2, o3⟩ : Nm) = ⟨z1, z2, z3⟩
      case neg =>
        have hq := neq_name hnm
        clear hnm
        go_wp2_with fail
        go_roundw
        case rel => exact ⟨j + 1, by omega, by go_num, rfl, HB_6⟩
        case measure => simp [intOf]; omega
      obtain ⟨t, hft, htle⟩ := HOJ.out hnm
      obtain ⟨rfl, rfl, rfl⟩ := eqn_name hnm
      have HFT := Lib.hid hft
      clear hft hnm HOJ
      go_wp2_with fail
      clear q_v_0 q_v_1 q_v_2 q_v_3 q_v_4 s_0 s_1 s_2 v_0 v_1 v_2 v_3 v_4 hW6 H_v HO HRJ2
      obtain ⟨bu, offu, rfl, hbu, HCU⟩ := HUJ.out
      have HCU' := Lib.hid HCU
      have hule := HUS.out.le
      have hulm := HUS.out.max
      unfold maxLen at hulm
      clear HCU HUJ
      go_loopw [9, 106] (fun up i wp => ∃ m : Nat, m ≤ cs.length ∧ i = .int .i64 m ∧ up = .bool true ∧ Below W5.heap.size W5 wp) (fun _ i _ => cs.length - (intOf i).toNat)
      case atStart => exact ⟨0, by omega, rfl, rfl, HB_6⟩
      case round =>
        obtain ⟨m, hm, rfl, rfl, HB_p⟩ := hrel
        obtain ⟨wp, rfl⟩ : ∃ wo : World, wo = wr := ⟨_, rfl⟩
        by_cases hml : m < cs.length
        case neg =>
          go_wp2_with fail
          go_roundw
          case rel => exact ⟨j + 1, by omega, by go_num, rfl, HB_p⟩
          case measure => simp [intOf]; omega
        obtain ⟨b4, off4, rfl, hb4, hrow4⟩ := HC5.out.get hml
        have HRC := Lib.hid (hrow4 m hml)
        have HCM := Lib.hid (List.getElem_mem hml)
        clear hrow4
        generalize cs[m] = c at *
        obtain ⟨c0, c1, c2, c3⟩ := c
        obtain ⟨g_0, g_1, g_2, g_3⟩ := (show Cells wp b4 (off4 + m * 4) [.int .i64 c0, .int .i64 c1, .int .i64 c2, .int .i64 c3] from HRC.out.below HB_p hb4).c4
        obtain ⟨W7, hW7, hB7, hZ7, hb7⟩ := boxes1 wp [.int .i64 c0, .int .i64 c1, .int .i64 c2, .int .i64 c3] 44
        have H_k := Lib.hid hb7
        have HB_7 : Below W5.heap.size W5 W7 := after0 HB_p hB7
        clear hb7 hZ7 hB7
        obtain ⟨r_0, r_1, r_2⟩ := (H_x.out.below HB_7).c3
        obtain ⟨hm1, hm2⟩ := rem_ok g3
        have hmm : (10000000 < zf + later % 10000000 ∧ ∃ tt, tt = (10000000 : Int)) ∨ (zf + later % 10000000 ≤ 10000000 ∧ ∃ tt, tt = (zf + later % 10000000 : Int)) := by
          rcases Int.lt_or_le 10000000 (zf + later % 10000000) with h | h
          · exact .inl ⟨h, _, rfl⟩
          · exact .inr ⟨h, _, rfl⟩
        rcases hmm with ⟨hmm, tt, htt⟩ | ⟨hmm, tt, htt⟩
        all_goals
          have HTT := Lib.hid (show t ≤ tt ∧ tt ≤ 10000000 by omega)
          replace htt := Lib.hid htt
          go_wp2_with fail
          rw [← htt.out]
          clear g_0 g_1 g_2 g_3 r_0 r_1 r_2 hW7
          obtain ⟨NB, hNB⟩ : ∃ N, W7.heap.size = N := ⟨_, rfl⟩
          obtain ⟨W8, hW8, hB8, hZ8, hb8⟩ := boxes1 W7 [.int .i64 zf, .int .i64 tt] 3
          rw [hNB] at hb8
          have H_t := Lib.hid hb8
          have HB_8 : Below W5.heap.size W5 W8 := after0 HB_7 hB8
          have H_k8 := Lib.hid (H_k.out.below hB8)
          rw [hW8, hNB]
          clear hb8 hZ8 hB8 hW8 hNB
          go_loopw [9, 120] (fun up i wz => ∃ q : Nat, q ≤ 2 ∧ i = .int .i64 q ∧ up = .bool true ∧ Below W8.heap.size W8 wz) (fun _ i _ => 2 - (intOf i).toNat)
          case atStart => exact ⟨0, by omega, rfl, rfl, Below.refl _ _⟩
          case round =>
            obtain ⟨q, hq, rfl, rfl, HB_z⟩ := hrel
            obtain ⟨wz, rfl⟩ : ∃ wo : World, wo = wr := ⟨_, rfl⟩
            have HB_5z : Below W5.heap.size W5 wz := after0 HB_8 HB_z
            by_cases hq2 : q < 2
            case neg =>
              go_wp2_with fail
              go_roundw
              case rel => exact ⟨m + 1, by omega, by go_num, rfl, HB_5z⟩
              case measure => simp [intOf]; omega
            have HTA : ∃ ta : Int, wz.cell? ⟨NB, q, none⟩ = some (.int .i64 ta) ∧ t ≤ ta ∧ ta ≤ 10000000 := by
              obtain ⟨t_0, t_1⟩ := (H_t.out.below HB_z).c2
              have hqq : q = 0 ∨ q = 1 := by omega
              rcases hqq with rfl | rfl
              · exact ⟨zf, t_0, by omega, htm2⟩
              · exact ⟨tt, t_1, HTT.out.1, HTT.out.2⟩
            obtain ⟨ta, t_0, ta1, ta2⟩ := HTA
            obtain ⟨x', y', hxy, HXY⟩ : ∃ x y, holds ⟨c0, c1, c2, c3⟩ uj keep ta = (x, y) ∧ ((x = -1 ∧ y = 0) ∨ (x = 0 ∧ y = 4)) := by
              rcases not_held (later := ta) HFT.out ta1 ta2 HCM.out with h | h
              · exact ⟨_, _, h, .inl ⟨rfl, rfl⟩⟩
              · exact ⟨_, _, h, .inr ⟨rfl, rfl⟩⟩
            obtain ⟨k_0, k_1, k_2, k_3⟩ := (H_k8.out.below HB_z).c4
            have u_0 := (HCU'.out.below HB_5z hbu).c1
            have HC := Lib.hid (fun W => holds_to (w := W) hxy)
            have HXY' := Lib.hid HXY
            clear hxy HXY
            go_wp2_with fail
            clear t_0
            have y_k_0 := cell_regrown k_0
            have y_k_1 := cell_regrown k_1
            have y_k_2 := cell_regrown k_2
            have y_k_3 := cell_regrown k_3
            clear k_0 k_1 k_2 k_3
            have y_u_0 := cell_regrown u_0
            clear u_0
            refine wp_region_plan (C := fun w' => ∃ p : Regrown, w' = grow (redrawn wz p.d) p.os) (.q 0 (.q 1 (.q 2 (.q 3 (.q 4 (.q 5 (.q 6 (.e 7 (.q 8 (.q 9 (.q 10 (.q 11 (.q 12 (.done)))))))))))))) 13 (by kernel_rfl) (by kernel_rfl) (grew_drew _) ?_
            repeat (any_goals (first | (go_big_quiet_skip; refine wpQuiet_nil ?_) | (go_big_quiet_want; go_big_quiet_op; go_big_quiet_on; refine wpQuiet_nil ?_) | ((with_reducible apply q_split); exact rfl; intro q hq; cases q <;> (rw [hq]; (try first | replace hq := bnot_t hq | replace hq := bnot_f hq); (try first | replace hq := of_decide_eq_true hq | replace hq := of_decide_eq_false hq | replace hq := eq_of_beq hq); (try first | replace hq := Int.not_lt.1 hq | replace hq := Int.not_le.1 hq | replace hq := Nat.not_lt.1 hq | replace hq := Nat.not_le.1 hq); try (exfalso; omega))) | (refine plan_q rfl rfl ?_)))
            refine plan_e rfl ?_
            go_wp2_with fail
            refine (HC.out _).mono ?_
            rintro e w9 ⟨rfl, hb_w9⟩
            have HW_w9 : Below wz.heap.size wz w9 := below_undrew hb_w9
            clear hb_w9
            go_wp2_with fail
            refine MixPost.intro (grew_of_below HW_w9) ?_
            repeat (any_goals (first | (go_big_quiet_skip; refine wpQuiet_nil ?_) | (go_big_quiet_want; go_big_quiet_op; go_big_quiet_on; refine wpQuiet_nil ?_) | ((with_reducible apply q_split); exact rfl; intro q hq; cases q <;> (rw [hq]; (try first | replace hq := bnot_t hq | replace hq := bnot_f hq); (try first | replace hq := of_decide_eq_true hq | replace hq := of_decide_eq_false hq | replace hq := eq_of_beq hq); (try first | replace hq := Int.not_lt.1 hq | replace hq := Int.not_le.1 hq | replace hq := Nat.not_lt.1 hq | replace hq := Nat.not_le.1 hq); try (exfalso; omega))) | (refine plan_q rfl rfl ?_)))
            clear y_k_0 y_k_1 y_k_2 y_k_3
            clear y_u_0
            rcases HXY'.out with ⟨rfl, rfl⟩ | ⟨rfl, rfl⟩
            all_goals
              all_goals refine plan_done ?_
              all_goals (try simp only [List.drop_succ_cons, List.drop_zero])
              all_goals (try go_wp2_with fail)
              all_goals refine NoPanic.normal ?_
              all_goals (try go_wp2_with fail)
              go_roundw
              case rel =>
                (repeat apply Exists.intro)
                exact ⟨⟨q + 1, by omega, by go_num, rfl, after0 HB_z HW_w9⟩, rfl⟩
              case measure => simp [intOf]; omega
end Go.Proofs.Ytpdecgbfnhaojaa
