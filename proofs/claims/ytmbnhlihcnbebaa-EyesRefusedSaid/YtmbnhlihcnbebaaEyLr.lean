/-
  The law EyesRefused.
-/
import Derived.Test.YtmbnhlihcnbebaaEyQ
import Derived.Test.YtmbnhlihcnbebaaEyT
set_option linter.unusedVariables false
namespace Go.Proofs.Ytmbnhlihcnbebaa
open Go Go.RowKit Ey Sk Go.Sort
def ac0 : Ac := ⟨0, 0, 0, 0, bx0⟩
theorem cA_one : ∀ x, ∀ u ∈ cA x, u.oneCell' = true := by intro x u hu; simp [cA] at hu; rcases hu with rfl | rfl | rfl | rfl | rfl | rfl | rfl | rfl <;> rfl
theorem info_act : (Try.prog.info? 37).map (fun i => (i.zero, i.size, i.bytes)) = some (some (eA ac0), 8, 64) := by kernel_rfl

set_option maxRecDepth 100000 in
set_option maxHeartbeats 8000000 in
theorem refused_walk (hko : KeysOk) (ao : Option Addr) (n cap : Nat) (l : List Ac) (w : World) (hs : Sl w 8 cA ao n cap l) :
    Calls Try.prog 6 #[.slice ao n cap] w (Ret w (.bool true)) := by
  obtain rfl := hs.len
  have hle := hs.le
  have hcap := hs.max
  unfold maxLen at hcap
  have HS := Lib.hid hs
  have HKO := Lib.hid hko
  have HB_w : Below w.heap.size w w := Below.refl _ _
  clear hs hko
  obtain ⟨i0, hi, hz0, hz1, hz2⟩ := info_parts info_act
  have HI := Lib.hid hi
  have HZ0 := Lib.hid hz0
  have HZ1 := Lib.hid hz1
  have HZ2 := Lib.hid hz2
  have HCL := Lib.hid (replS_came l)
  have HGS := Lib.hid (fun k hk h => @good_succ l k hk h)
  have HGR := Lib.hid (good_rep l)
  have HGL := Lib.hid (good_len l)
  clear hi hz0 hz1 hz2
  go_enter Try.func6, Try.ntmps6
  go_wp2_with fail
  refine (head_any HKO.out _).mono ?_
  rintro e wa ⟨rfl, hb_wa⟩
  have HB_wa : Below w.heap.size w wa := by first | exact after0 HB_w hb_wa | exact after1 HB_w hb_wa | exact after2 HB_w hb_wa | exact after3 HB_w hb_wa | exact after4 HB_w hb_wa | exact after5 HB_w hb_wa
  by_cases hl : 300 < (l.length : Int)
  ·
    go_wp2_with fail
    all_goals try (exfalso; omega)
    go_ret
    exact ⟨rfl, HB_wa⟩
  replace hl := Int.not_lt.1 hl
  go_wp2_with fail
  all_goals try (exfalso; omega)
  refine (replay_any HKO.out _ _ _ l _ (HS.out.below HB_wa) (by omega)).mono ?_
  rintro e wb ⟨o1, c1, o2, c2, rfl, hs1, hs2, hb_wb⟩
  have HB_wb : Below w.heap.size w wb := by first | exact after0 HB_wa hb_wb | exact after1 HB_wa hb_wb | exact after2 HB_wa hb_wb | exact after3 HB_wa hb_wb | exact after4 HB_wa hb_wb | exact after5 HB_wa hb_wb
  have H1 := Lib.hid hs1
  have H2 := Lib.hid hs2
  clear hs1 hs2
  have hcl := HCL.out
  generalize replS l = s at *
  obtain ⟨L, t0, cm⟩ := s
  dsimp only at H1 H2 hcl HGS HGR
  go_wp2_with fail
  all_goals try (exfalso; omega)
  go_loopw [6, 7] (fun g i wr => ∃ k : Nat, k ≤ l.length ∧ i = .int .i64 k ∧ Below w.heap.size w wr ∧ Hid (Below wb.heap.size wb wr) ∧ Hid (OwnL wr wb.heap.size 37 8 cA g (goodS (l.take k)))) (fun _ i _ => l.length - (intOf i).toNat)
  case atStart => exact ⟨0, by omega, rfl, HB_wb, Below.refl _ _, OwnL.nil⟩
  case round =>
    obtain ⟨k, hk, rfl, HB_wr, HBB, HO⟩ := hrel
    by_cases hlt : k < l.length
    · have hlt2 : k < cm.length := by omega
      obtain ⟨b', off, rfl, hb, hrow⟩ := (H2.out.below HBB.out).get hlt2
      have e_0 := (hrow k hlt2).c1
      rw [Nat.mul_one] at e_0
      have HX := Lib.hid (HGS.out k hlt hlt2)
      have hyl := good_len (l.take k)
      rw [List.length_take] at hyl
      replace hyl : (goodS (l.take k)).length ≤ 300 := by omega
      clear hrow
      generalize goodS (l.take k) = ys at *
      by_cases hq : cm[k] = 0
      case neg =>
        have HXN := Lib.hid (HX.out.trans (if_neg hq))
        have hq2 : (cm[k] == 0) = false := beq_eq_false_iff_ne.2 hq
        generalize cm[k] = q at *
        clear hq
        go_wp2_with fail
        all_goals try (exfalso; omega)
        go_roundw
        case rel => exact ⟨k + 1, hlt, by go_num, HB_wr, HBB.out, by rw [HXN.out]; exact HO.out⟩
        case measure => simp [intOf] <;> omega
      have HXN := Lib.hid (HX.out.trans (if_pos hq))
      rw [hq] at e_0
      clear HX hq
      obtain ⟨b2, off2, rfl, hb2, hrow⟩ := HS.out.get hlt
      obtain ⟨f_0, f_1, f_2, f_3, f_4, f_5, f_6, f_7⟩ := ((hrow k hlt).below HB_wr hb2).c8
      clear hrow
      generalize l[k] = a at *
      have HOX := Lib.hid (HO.out.alloc (.cells (cA a).toArray 37))
      have HSX : Hid (Sl (wr.alloc (.cells (cA a).toArray 37)) 8 cA (some ⟨wr.heap.size, 0, none⟩) 1 1 [a]) := Sl.one (x := a) cA_len (Box.new wr (cA a) 37)
      have hszx : wb.heap.size ≤ (wr.alloc (.cells (cA a).toArray 37)).heap.size := by have := HBB.out.size; simp; omega
      go_wp2_with (at_builtin; refine wpList_append_sl rfl _ _ 22 rfl wb.heap.size 37 i0 _ 8 64 Try.underlying22 HI.out HZ0.out HZ1.out HZ2.out rfl (by decide) cA_len cA_one _ ys rfl HOX.out (some ⟨wr.heap.size, 0, none⟩) 1 1 [a] rfl HSX.out (by unfold maxLen; omega) (by omega) hszx ?_)
      rintro v' w6 ho6 hg6 hgr6
      have HBB6 := Lib.hid ((grew1 HBB.out).trans (hg6 _ (Nat.le_refl _)))
      have HB_6 : Below w.heap.size w w6 := after0 HB_wb HBB6.out
      have HO6 := Lib.hid ho6
      clear hg6 hgr6 ho6 HOX HSX hszx HO e_0 f_0 f_1 f_2 f_3 f_4 f_5 f_6 f_7
      go_wp2_with fail
      go_roundw
      case rel => exact ⟨k + 1, hlt, by go_num, HB_6, HBB6.out, by rw [HXN.out]; exact HO6.out⟩
      case measure => simp [intOf] <;> omega
    · obtain rfl : k = l.length := by omega
      rw [List.take_length] at HO
      obtain ⟨so, sc, rfl, hsl⟩ := HO.out.sl cA_len
      have HG := Lib.hid hsl
      have hgl := HGL.out
      have hcg := replS_came (goodS l)
      replace H1 := Lib.hid (H1.out.below HBB.out)
      clear hsl HO H2 HGS hlt hk
      generalize goodS l = g at *
      go_wp2_with fail
      all_goals try (exfalso; omega)
      refine (replay_any HKO.out _ _ _ g _ HG.out (by omega)).mono ?_
      rintro e wc ⟨o3, c3, o4, c4, rfl, hs3, hs4, hb_wc⟩
      have HB_wc : Below w.heap.size w wc := by first | exact after0 HB_wr hb_wc | exact after1 HB_wr hb_wc | exact after2 HB_wr hb_wc | exact after3 HB_wr hb_wc | exact after4 HB_wr hb_wc | exact after5 HB_wr hb_wc
      have H3 := Lib.hid hs3
      have H4 := Lib.hid hs4
      have H1 := Lib.hid (H1.out.below hb_wc)
      clear hs3 hs4
      generalize replS g = s at *
      obtain ⟨L2, t2, cm2⟩ := s
      dsimp only at H3 H4 hcg HGR
      have HG0 := Lib.hid HGR.out.2
      obtain rfl := HGR.out.1
      clear HGR
      go_wp2_with fail
      all_goals try (exfalso; omega)
      go_loopw [3, 10] (fun u i wr => ∃ k : Nat, k ≤ cm2.length ∧ i = .int .i64 k ∧ u = .bool true ∧ Below w.heap.size w wr ∧ Hid (Below wc.heap.size wc wr)) (fun _ i _ => cm2.length - (intOf i).toNat)
      case atStart => exact ⟨0, by omega, rfl, rfl, HB_wc, Below.refl _ _⟩
      case round =>
        obtain ⟨k, hk, rfl, rfl, HB_wr, HBB5⟩ := hrel
        by_cases hlt : k < cm2.length
        · obtain ⟨b', off, rfl, hb, hrow⟩ := (H4.out.below HBB5.out).get hlt
          have e_0 := (hrow k hlt).c1
          rw [Nat.mul_one, HG0.out _ (List.getElem_mem hlt)] at e_0
          clear hrow
          go_wp2_with fail
          all_goals try (exfalso; omega)
          go_roundw
          case rel => exact ⟨k + 1, hlt, by go_num, rfl, HB_wr, HBB5.out⟩
          case measure => simp [intOf] <;> omega
        · obtain rfl : k = cm2.length := by omega
          go_wp2_with fail
          all_goals try (exfalso; omega)
          refine (k_same _ (H3.out.below HBB5.out) (H1.out.below HBB5.out) rfl).mono ?_
          rintro e wd ⟨rfl, hb_wd⟩
          have HB_wd : Below w.heap.size w wd := by first | exact after0 HB_wr hb_wd | exact after1 HB_wr hb_wd | exact after2 HB_wr hb_wd | exact after3 HB_wr hb_wd | exact after4 HB_wr hb_wd | exact after5 HB_wr hb_wd
          go_wp2_with fail
          all_goals try (exfalso; omega)
          go_ret
          exact ⟨rfl, HB_wd⟩
end Go.Proofs.Ytmbnhlihcnbebaa
