/-
  The law FollowMatchesReference.
-/
import Derived.Test.YtofilkphaelceaaFoRh
set_option linter.unusedVariables false
namespace Go.Proofs.Ytofilkphaelceaa
open Go Go.RowKit Fo Sk Go.Sort

set_option maxRecDepth 100000 in
set_option maxHeartbeats 8000000 in
theorem matches_walk (hso : SortOk) (ao : Option Addr) (n cap : Nat) (l : List St) (bo : Option Addr) (m capb : Nat) (d : List Int) (co : Option Addr) (mc capc : Nat) (o : List Int) (t : Int) (w : World) (hs : SlS w ao n cap l) (hd : Sl w 1 cI bo m capb d) (ho : Sl w 1 cI co mc capc o) :
    Calls Try.prog 3 #[.slice ao n cap, .slice bo m capb, .slice co mc capc, .int .i64 t] w (Ret w (.bool true)) := by
  obtain rfl := hs.1.len
  have hle := hs.1.le
  have hcap := hs.1.max
  unfold maxLen at hcap
  have HS := Lib.hid hs
  have HSO := Lib.hid hso
  have HB_w : Below w.heap.size w w := Below.refl _ _
  obtain rfl := hd.len
  obtain rfl := ho.len
  have HD := Lib.hid hd
  have HO := Lib.hid ho
  clear hs hd ho hso
  go_enter Try.func3, Try.ntmps3
  go_wp2_with fail
  refine (head_any HSO.out _).mono ?_
  rintro e wa ⟨rfl, hb_wa⟩
  have HB_wa : Below w.heap.size w wa := by first | exact after0 HB_w hb_wa | exact after1 HB_w hb_wa | exact after2 HB_w hb_wa | exact after3 HB_w hb_wa | exact after4 HB_w hb_wa | exact after5 HB_w hb_wa
  go_wp2_with fail
  refine (rfew_any _ _ _ l _ (HS.out.below HB_wa)).mono ?_
  rintro e wb ⟨rfl, hb_wb⟩
  have HB_wb : Below w.heap.size w wb := by first | exact after0 HB_wa hb_wb | exact after1 HB_wa hb_wb | exact after2 HB_wa hb_wb | exact after3 HB_wa hb_wb | exact after4 HB_wa hb_wb | exact after5 HB_wa hb_wb
  cases h1 : fewB l
  · clear h1
    go_wp2_with fail
    all_goals try (exfalso; omega)
    go_ret
    exact ⟨rfl, HB_wb⟩
  clear h1
  by_cases h30 : 30 < (o.length : Int) ∧ (o.length : Int) ≤ 200
  · obtain ⟨h30a, h30b⟩ := h30
    go_wp2_with fail
    all_goals try (exfalso; omega)
    go_ret
    exact ⟨rfl, HB_wb⟩
  have hpart : (o.length : Int) ≤ 30 ∨ (30 < (o.length : Int) ∧ 200 < (o.length : Int)) := by omega
  clear h30
  obtain ⟨v, hv⟩ : ∃ v, valid l = v := ⟨_, rfl⟩
  have HV1 := Lib.hid (Valid_any _ _ _ l _ (HS.out.below HB_wb))
  rw [hv] at HV1
  have go : ∀ (G : Prop), G → G := fun _ h => h
  rcases hpart with hp | ⟨hp, hp2⟩
  all_goals
    go_wp2_with fail
    all_goals try (exfalso; omega)
    refine (HV1.out).mono ?_
    rintro e wc ⟨rfl, hb_wc⟩
    have HB_wc : Below w.heap.size w wc := by first | exact after0 HB_wb hb_wc | exact after1 HB_wb hb_wc | exact after2 HB_wb hb_wc | exact after3 HB_wb hb_wc | exact after4 HB_wb hb_wc | exact after5 HB_wb hb_wc
    have HV2 := Lib.hid (rvalid_any _ _ _ l _ (HS.out.below HB_wc))
    rw [hv] at HV2
    go_wp2_with fail
    refine (HV2.out).mono ?_
    rintro e wd ⟨rfl, hb_wd⟩
    have HB_wd : Below w.heap.size w wd := by first | exact after0 HB_wc hb_wd | exact after1 HB_wc hb_wd | exact after2 HB_wc hb_wd | exact after3 HB_wc hb_wd | exact after4 HB_wc hb_wd | exact after5 HB_wc hb_wd
    clear HV1 HV2 hv
    obtain ⟨⟨r_x1, e_x1⟩, hr⟩ : ∃ p, readyR l d = p := ⟨_, rfl⟩
    have HA := Lib.hid (Ready_any _ _ _ l _ _ _ d _ (HS.out.below HB_wd) (HD.out.below HB_wd))
    rw [hr] at HA
    go_wp2_with fail
    all_goals try (exfalso; omega)
    refine (HA.out).mono ?_
    rintro e x1 ⟨so_x1, sn_x1, sc_x1, rfl, hs1, hb_x1⟩
    have HB_x1 : Below w.heap.size w x1 := by first | exact after0 HB_wd hb_x1 | exact after1 HB_wd hb_x1 | exact after2 HB_wd hb_x1 | exact after3 HB_wd hb_x1 | exact after4 HB_wd hb_x1 | exact after5 HB_wd hb_x1
    have HB := Lib.hid (rReady_any _ _ _ l _ _ _ d _ (HS.out.below HB_x1) (HD.out.below HB_x1))
    rw [hr] at HB
    have HS1 := Lib.hid hs1
    clear hs1 HA hr
    go_wp2_with fail
    refine (HB.out).mono ?_
    rintro e x2 ⟨so_x2, sn_x2, sc_x2, rfl, hs2, hb_x2⟩
    have HB_x2 : Below w.heap.size w x2 := by first | exact after0 HB_x1 hb_x2 | exact after1 HB_x1 hb_x2 | exact after2 HB_x1 hb_x2 | exact after3 HB_x1 hb_x2 | exact after4 HB_x1 hb_x2 | exact after5 HB_x1 hb_x2
    have HC := Lib.hid (rints_any _ _ _ _ _ _ r_x1 r_x1 _ (HS1.out.below hb_x2) hs2)
    rw [decide_eq_true rfl] at HC
    clear hs2 HB HS1
    go_wp2_with fail
    refine (HC.out).mono ?_
    rintro e x3 ⟨rfl, hb_x3⟩
    have HB_x3 : Below w.heap.size w x3 := by first | exact after0 HB_x2 hb_x3 | exact after1 HB_x2 hb_x3 | exact after2 HB_x2 hb_x3 | exact after3 HB_x2 hb_x3 | exact after4 HB_x2 hb_x3 | exact after5 HB_x2 hb_x3
    clear HC
    obtain ⟨⟨r_y1, e_y1⟩, hr⟩ : ∃ p, orderR l d = p := ⟨_, rfl⟩
    have HA := Lib.hid (Order_any _ _ _ l _ _ _ d _ (HS.out.below HB_x3) (HD.out.below HB_x3))
    rw [hr] at HA
    go_wp2_with fail
    all_goals try (exfalso; omega)
    refine (HA.out).mono ?_
    rintro e y1 ⟨so_y1, sn_y1, sc_y1, rfl, hs1, hb_y1⟩
    have HB_y1 : Below w.heap.size w y1 := by first | exact after0 HB_x3 hb_y1 | exact after1 HB_x3 hb_y1 | exact after2 HB_x3 hb_y1 | exact after3 HB_x3 hb_y1 | exact after4 HB_x3 hb_y1 | exact after5 HB_x3 hb_y1
    have HB := Lib.hid (rorder_any _ _ _ l _ _ _ d _ (HS.out.below HB_y1) (HD.out.below HB_y1))
    rw [hr] at HB
    have HS1 := Lib.hid hs1
    clear hs1 HA hr
    go_wp2_with fail
    refine (HB.out).mono ?_
    rintro e y2 ⟨so_y2, sn_y2, sc_y2, rfl, hs2, hb_y2⟩
    have HB_y2 : Below w.heap.size w y2 := by first | exact after0 HB_y1 hb_y2 | exact after1 HB_y1 hb_y2 | exact after2 HB_y1 hb_y2 | exact after3 HB_y1 hb_y2 | exact after4 HB_y1 hb_y2 | exact after5 HB_y1 hb_y2
    have HC := Lib.hid (rints_any _ _ _ _ _ _ r_y1 r_y1 _ (HS1.out.below hb_y2) hs2)
    rw [decide_eq_true rfl] at HC
    clear hs2 HB HS1
    go_wp2_with fail
    refine (HC.out).mono ?_
    rintro e y3 ⟨rfl, hb_y3⟩
    have HB_y3 : Below w.heap.size w y3 := by first | exact after0 HB_y2 hb_y3 | exact after1 HB_y2 hb_y3 | exact after2 HB_y2 hb_y3 | exact after3 HB_y2 hb_y3 | exact after4 HB_y2 hb_y3 | exact after5 HB_y2 hb_y3
    clear HC
    obtain ⟨⟨r_p, e_p⟩, hr⟩ : ∃ p, permR l o = p := ⟨_, rfl⟩
    have HA := Lib.hid (Permitted_any _ _ _ l _ _ _ o _ (HS.out.below HB_y3) (HO.out.below HB_y3))
    rw [hr] at HA
    go_wp2_with fail
    refine (HA.out).mono ?_
    rintro e p1 ⟨rfl, hb_p1⟩
    have HB_p1 : Below w.heap.size w p1 := by first | exact after0 HB_y3 hb_p1 | exact after1 HB_y3 hb_p1 | exact after2 HB_y3 hb_p1 | exact after3 HB_y3 hb_p1 | exact after4 HB_y3 hb_p1 | exact after5 HB_y3 hb_p1
    have HB := Lib.hid (rpermitted_any _ _ _ l _ _ _ o _ (HS.out.below HB_p1) (HO.out.below HB_p1))
    rw [hr] at HB
    clear HA hr
    go_wp2_with fail
    refine (HB.out).mono ?_
    rintro e p2 ⟨rfl, hb_p2⟩
    have HB_p2 : Below w.heap.size w p2 := by first | exact after0 HB_p1 hb_p2 | exact after1 HB_p1 hb_p2 | exact after2 HB_p1 hb_p2 | exact after3 HB_p1 hb_p2 | exact after4 HB_p1 hb_p2 | exact after5 HB_p1 hb_p2
    clear HB
    obtain ⟨⟨r_m1, e_m1⟩, hr⟩ : ∃ p, missR l d t = p := ⟨_, rfl⟩
    have HA := Lib.hid (Missing_any HSO.out _ _ _ l _ _ _ d t _ (HS.out.below HB_p2) (HD.out.below HB_p2))
    rw [hr] at HA
    go_wp2_with fail
    all_goals try (exfalso; omega)
    refine (HA.out).mono ?_
    rintro e m1 ⟨so_m1, sn_m1, sc_m1, rfl, hs1, hb_m1⟩
    have HB_m1 : Below w.heap.size w m1 := by first | exact after0 HB_p2 hb_m1 | exact after1 HB_p2 hb_m1 | exact after2 HB_p2 hb_m1 | exact after3 HB_p2 hb_m1 | exact after4 HB_p2 hb_m1 | exact after5 HB_p2 hb_m1
    have HB := Lib.hid (rmissing_any _ _ _ l _ _ _ d t _ (HS.out.below HB_m1) (HD.out.below HB_m1))
    rw [hr] at HB
    have HS1 := Lib.hid hs1
    clear hs1 HA hr
    go_wp2_with fail
    refine (HB.out).mono ?_
    rintro e m2 ⟨so_m2, sn_m2, sc_m2, rfl, hs2, hb_m2⟩
    have HB_m2 : Below w.heap.size w m2 := by first | exact after0 HB_m1 hb_m2 | exact after1 HB_m1 hb_m2 | exact after2 HB_m1 hb_m2 | exact after3 HB_m1 hb_m2 | exact after4 HB_m1 hb_m2 | exact after5 HB_m1 hb_m2
    have HC := Lib.hid (rints_any _ _ _ _ _ _ r_m1 r_m1 _ (HS1.out.below hb_m2) hs2)
    rw [decide_eq_true rfl] at HC
    clear hs2 HB HS1
    go_wp2_with fail
    refine (HC.out).mono ?_
    rintro e m3 ⟨rfl, hb_m3⟩
    have HB_m3 : Below w.heap.size w m3 := by first | exact after0 HB_m2 hb_m3 | exact after1 HB_m2 hb_m3 | exact after2 HB_m2 hb_m3 | exact after3 HB_m2 hb_m3 | exact after4 HB_m2 hb_m3 | exact after5 HB_m2 hb_m3
    clear HC
    obtain ⟨⟨r_b1, e_b1⟩, hr⟩ : ∃ p, missR l [] t = p := ⟨_, rfl⟩
    have HA := Lib.hid (Before_any HSO.out _ _ _ l t _ (HS.out.below HB_m3))
    rw [hr] at HA
    go_wp2_with fail
    all_goals try (exfalso; omega)
    refine (HA.out).mono ?_
    rintro e b1 ⟨so_b1, sn_b1, sc_b1, rfl, hs1, hb_b1⟩
    have HB_b1 : Below w.heap.size w b1 := by first | exact after0 HB_m3 hb_b1 | exact after1 HB_m3 hb_b1 | exact after2 HB_m3 hb_b1 | exact after3 HB_m3 hb_b1 | exact after4 HB_m3 hb_b1 | exact after5 HB_m3 hb_b1
    have HB := Lib.hid (rbefore_any _ _ _ l t _ (HS.out.below HB_b1))
    rw [hr] at HB
    have HS1 := Lib.hid hs1
    clear hs1 HA hr
    go_wp2_with fail
    refine (HB.out).mono ?_
    rintro e b2 ⟨so_b2, sn_b2, sc_b2, rfl, hs2, hb_b2⟩
    have HB_b2 : Below w.heap.size w b2 := by first | exact after0 HB_b1 hb_b2 | exact after1 HB_b1 hb_b2 | exact after2 HB_b1 hb_b2 | exact after3 HB_b1 hb_b2 | exact after4 HB_b1 hb_b2 | exact after5 HB_b1 hb_b2
    have HC := Lib.hid (rints_any _ _ _ _ _ _ r_b1 r_b1 _ (HS1.out.below hb_b2) hs2)
    rw [decide_eq_true rfl] at HC
    clear hs2 HB HS1
    go_wp2_with fail
    refine (HC.out).mono ?_
    rintro e b3 ⟨rfl, hb_b3⟩
    have HB_b3 : Below w.heap.size w b3 := by first | exact after0 HB_b2 hb_b3 | exact after1 HB_b2 hb_b3 | exact after2 HB_b2 hb_b3 | exact after3 HB_b2 hb_b3 | exact after4 HB_b2 hb_b3 | exact after5 HB_b2 hb_b3
    clear HC
    obtain ⟨⟨r_c1, e_c1⟩, hr⟩ : ∃ p, besR l = p := ⟨_, rfl⟩
    have HA := Lib.hid (Beside_any _ _ _ l _ (HS.out.below HB_b3))
    rw [hr] at HA
    go_wp2_with fail
    all_goals try (exfalso; omega)
    refine (HA.out).mono ?_
    rintro e c1 ⟨so_c1, sn_c1, sc_c1, rfl, hs1, hb_c1⟩
    have HB_c1 : Below w.heap.size w c1 := by first | exact after0 HB_b3 hb_c1 | exact after1 HB_b3 hb_c1 | exact after2 HB_b3 hb_c1 | exact after3 HB_b3 hb_c1 | exact after4 HB_b3 hb_c1 | exact after5 HB_b3 hb_c1
    have HB := Lib.hid (rbeside_any _ _ _ l _ (HS.out.below HB_c1))
    rw [hr] at HB
    have HS1 := Lib.hid hs1
    clear hs1 HA hr
    go_wp2_with fail
    refine (HB.out).mono ?_
    rintro e c2 ⟨so_c2, sn_c2, sc_c2, rfl, hs2, hb_c2⟩
    have HB_c2 : Below w.heap.size w c2 := by first | exact after0 HB_c1 hb_c2 | exact after1 HB_c1 hb_c2 | exact after2 HB_c1 hb_c2 | exact after3 HB_c1 hb_c2 | exact after4 HB_c1 hb_c2 | exact after5 HB_c1 hb_c2
    have HC := Lib.hid (rpairs_any _ _ _ _ _ _ r_c1 r_c1 _ (HS1.out.below hb_c2) hs2)
    rw [decide_eq_true rfl] at HC
    clear hs2 HB HS1
    go_wp2_with fail
    refine (HC.out).mono ?_
    rintro e c3 ⟨rfl, hb_c3⟩
    have HB_c3 : Below w.heap.size w c3 := by first | exact after0 HB_c2 hb_c3 | exact after1 HB_c2 hb_c3 | exact after2 HB_c2 hb_c3 | exact after3 HB_c2 hb_c3 | exact after4 HB_c2 hb_c3 | exact after5 HB_c2 hb_c3
    clear HC
    obtain ⟨⟨r_d1, e_d1⟩, hr⟩ : ∃ p, exchR l o = p := ⟨_, rfl⟩
    have HA := Lib.hid (Exchanges_any _ _ _ l _ _ _ o _ (HS.out.below HB_c3) (HO.out.below HB_c3))
    rw [hr] at HA
    go_wp2_with fail
    all_goals try (exfalso; omega)
    refine (HA.out).mono ?_
    rintro e d1 ⟨so_d1, sn_d1, sc_d1, rfl, hs1, hb_d1⟩
    have HB_d1 : Below w.heap.size w d1 := by first | exact after0 HB_c3 hb_d1 | exact after1 HB_c3 hb_d1 | exact after2 HB_c3 hb_d1 | exact after3 HB_c3 hb_d1 | exact after4 HB_c3 hb_d1 | exact after5 HB_c3 hb_d1
    have HB := Lib.hid (rexchanges_any _ _ _ l _ _ _ o _ (HS.out.below HB_d1) (HO.out.below HB_d1))
    rw [hr] at HB
    have HS1 := Lib.hid hs1
    clear hs1 HA hr
    go_wp2_with fail
    refine (HB.out).mono ?_
    rintro e d2 ⟨so_d2, sn_d2, sc_d2, rfl, hs2, hb_d2⟩
    have HB_d2 : Below w.heap.size w d2 := by first | exact after0 HB_d1 hb_d2 | exact after1 HB_d1 hb_d2 | exact after2 HB_d1 hb_d2 | exact after3 HB_d1 hb_d2 | exact after4 HB_d1 hb_d2 | exact after5 HB_d1 hb_d2
    have HC := Lib.hid (rints_any _ _ _ _ _ _ r_d1 r_d1 _ (HS1.out.below hb_d2) hs2)
    rw [decide_eq_true rfl] at HC
    clear hs2 HB HS1
    go_wp2_with fail
    refine (HC.out).mono ?_
    rintro e d3 ⟨rfl, hb_d3⟩
    have HB_d3 : Below w.heap.size w d3 := by first | exact after0 HB_d2 hb_d3 | exact after1 HB_d2 hb_d3 | exact after2 HB_d2 hb_d3 | exact after3 HB_d2 hb_d3 | exact after4 HB_d2 hb_d3 | exact after5 HB_d2 hb_d3
    clear HC
    go_wp2_with fail
    go_ret
    exact ⟨rfl, HB_d3⟩
end Go.Proofs.Ytofilkphaelceaa
