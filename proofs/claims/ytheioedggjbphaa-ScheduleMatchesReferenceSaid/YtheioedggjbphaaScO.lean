/-
  Walks of the layer 'schedule': Late, Check.
-/
import Derived.Test.YtheioedggjbphaaScN
set_option linter.unusedVariables false
namespace Sc
def okAt (J : List Jb) (l : List Sn) (k : Nat) : Bool := match l[k]? with | some s => inT J s && !gotF J (l.take k) s.job.toNat s.piece.toNat | none => true
def checkB (J : List Jb) (l : List Sn) : Bool := (List.range l.length).all (okAt J l)
def checkR (J : List Jb) (l : List Sn) : Bool × Int := if validJ J && namesB J l then (checkB J l, 0) else (false, 1)
theorem okAt_at {J : List Jb} {l : List Sn} {k : Nat} (h : k < l.length) {i p : Nat} (hi : l[k].job = i) (hp : l[k].piece = p) : okAt J l k = (inT J l[k] && !gotF J (l.take k) i p) := by
  unfold okAt
  rw [List.getElem?_eq_getElem h]
  dsimp only
  rw [hi, hp, Int.toNat_natCast, Int.toNat_natCast]
theorem check_no {J : List Jb} {l : List Sn} {k : Nat} (h : k < l.length) (e : okAt J l k = false) : checkB J l = false := by
  unfold checkB
  rw [List.all_eq_false]
  exact ⟨k, List.mem_range.2 h, by simp [e]⟩
theorem check_yes {J : List Jb} {l : List Sn} (h : ∀ k, k < l.length → okAt J l k = true) : checkB J l = true := by
  unfold checkB
  rw [List.all_eq_true]
  exact fun k hk => h k (List.mem_range.1 hk)
end Sc
namespace Go.Proofs.Ytheioedggjbphaa
open Go Go.RowKit Sc Sk Go.Sort
set_option maxRecDepth 100000 in
set_option maxHeartbeats 4000000 in
theorem Late_any (jo : Option Addr) (n cap : Nat) (J : List Jb) (ao : Option Addr) (m capa : Nat) (l : List Sn) (w : World) (hj : Sl w 4 cJ jo n cap J) (hs : Sl w 3 cS ao m capa l) :
    Calls Try.prog 18 #[.slice jo n cap, .slice ao m capa] w (IsE w (lateR J l)) := by
  have HV := Lib.hid (Valid_any jo n cap J w hj)
  have HNM := Lib.hid (fun W (hW : Below w.heap.size w W) => names_any jo n cap J ao m capa l W (hj.below hW) (hs.below hW))
  have HLT := Lib.hid (fun W (hW : Below w.heap.size w W) h1 h2 => late_any jo n cap J ao m capa l W (hj.below hW) (hs.below hW) h1 h2)
  have HR := Lib.hid (show lateR J l = if (validJ J && namesB J l) = true then (lateF J l, 0) else ([], 1) from rfl)
  have HB_w : Below w.heap.size w w := Below.refl _ _
  generalize lateR J l = r at *
  clear hj hs
  go_enter Try.func18, Try.ntmps18
  cases h1 : validJ J with
  | false =>
    rw [h1] at HV HR
    have HP := Lib.hid (show r = ([], 1) from HR.out)
    clear HR h1
    go_wp2_with fail
    all_goals try (exfalso; omega)
    refine (HV.out).mono ?_
    rintro e wa ⟨rfl, hb_wa⟩
    have HB_wa : Below w.heap.size w wa := by first | exact after0 HB_w hb_wa | exact after1 HB_w hb_wa | exact after2 HB_w hb_wa | exact after3 HB_w hb_wa | exact after4 HB_w hb_wa | exact after5 HB_w hb_wa
    go_wp2_with fail
    all_goals try (exfalso; omega)
    go_ret2
    exact ⟨.slice none 0 0, by rw [HP.out]; rfl, by rw [HP.out]; exact OwnL.nil, HB_wa⟩
  | true =>
    rw [h1] at HV HR
    go_wp2_with fail
    all_goals try (exfalso; omega)
    refine (HV.out).mono ?_
    rintro e wa ⟨rfl, hb_wa⟩
    have HB_wa : Below w.heap.size w wa := by first | exact after0 HB_w hb_wa | exact after1 HB_w hb_wa | exact after2 HB_w hb_wa | exact after3 HB_w hb_wa | exact after4 HB_w hb_wa | exact after5 HB_w hb_wa
    have HN2 := Lib.hid (HNM.out wa HB_wa)
    cases h2 : namesB J l with
    | false =>
      rw [h2] at HN2 HR
      have HP := Lib.hid (show r = ([], 1) from HR.out)
      clear HR h1 h2
      go_wp2_with fail
      all_goals try (exfalso; omega)
      refine (HN2.out).mono ?_
      rintro e wb ⟨rfl, hb_wb⟩
      have HB_wb : Below w.heap.size w wb := by first | exact after0 HB_wa hb_wb | exact after1 HB_wa hb_wb | exact after2 HB_wa hb_wb | exact after3 HB_wa hb_wb | exact after4 HB_wa hb_wb | exact after5 HB_wa hb_wb
      go_wp2_with fail
      all_goals try (exfalso; omega)
      go_ret2
      exact ⟨.slice none 0 0, by rw [HP.out]; rfl, by rw [HP.out]; exact OwnL.nil, HB_wb⟩
    | true =>
      rw [h2] at HN2 HR
      have HP := Lib.hid (show r = (lateF J l, 0) from HR.out)
      have HPX := Lib.hid (fun W hW => HLT.out W hW h1 h2)
      clear HR h1 h2
      go_wp2_with fail
      all_goals try (exfalso; omega)
      refine (HN2.out).mono ?_
      rintro e wb ⟨rfl, hb_wb⟩
      have HB_wb : Below w.heap.size w wb := by first | exact after0 HB_wa hb_wb | exact after1 HB_wa hb_wb | exact after2 HB_wa hb_wb | exact after3 HB_wa hb_wb | exact after4 HB_wa hb_wb | exact after5 HB_wa hb_wb
      go_wp2_with fail
      all_goals try (exfalso; omega)
      refine (HPX.out wb HB_wb).mono ?_
      rintro e wc ⟨v, rfl, ho, hb_wc⟩
      have HO := Lib.hid (ho.mono HB_wb.size)
      have HB_wc := after0 HB_wb hb_wc
      clear ho hb_wc
      go_wp2_with fail
      all_goals try (exfalso; omega)
      go_ret2
      exact ⟨v, by rw [HP.out]; rfl, by rw [HP.out]; exact HO.out, HB_wc⟩
set_option maxRecDepth 100000 in
set_option maxHeartbeats 8000000 in
theorem Check_any (jo : Option Addr) (n cap : Nat) (J : List Jb) (ao : Option Addr) (m capa : Nat) (l : List Sn) (w : World) (hj : Sl w 4 cJ jo n cap J) (hs : Sl w 3 cS ao m capa l) :
    Calls Try.prog 21 #[.slice jo n cap, .slice ao m capa] w (Ret w (.tuple #[.bool (checkR J l).1, .int .i64 (checkR J l).2])) := by
  have HV0 := Lib.hid (Valid_any jo n cap J w hj)
  have HNM := Lib.hid (fun W (hW : Below w.heap.size w W) => names_any jo n cap J ao m capa l W (hj.below hW) (hs.below hW))
  have HR := Lib.hid (show checkR J l = if (validJ J && namesB J l) = true then (checkB J l, 0) else (false, 1) from rfl)
  have HB_w : Below w.heap.size w w := Below.refl _ _
  obtain ⟨r, hr⟩ : ∃ r, checkR J l = r := ⟨_, rfl⟩
  rw [hr] at HR ⊢
  clear hr
  go_enter Try.func21, Try.ntmps21
  cases h1 : validJ J with
  | false =>
    rw [h1] at HV0 HR
    have HP := Lib.hid (show r = (false, 1) from HR.out)
    clear HR h1
    go_wp2_with fail
    all_goals try (exfalso; omega)
    refine (HV0.out).mono ?_
    rintro e wa ⟨rfl, hb_wa⟩
    have HB_wa : Below w.heap.size w wa := by first | exact after0 HB_w hb_wa | exact after1 HB_w hb_wa | exact after2 HB_w hb_wa | exact after3 HB_w hb_wa | exact after4 HB_w hb_wa | exact after5 HB_w hb_wa
    go_wp2_with fail
    all_goals try (exfalso; omega)
    go_ret2
    exact ⟨by rw [HP.out]; rfl, HB_wa⟩
  | true =>
  rw [h1] at HV0 HR
  go_wp2_with fail
  all_goals try (exfalso; omega)
  refine (HV0.out).mono ?_
  rintro e wa ⟨rfl, hb_wa⟩
  have HB_wa : Below w.heap.size w wa := by first | exact after0 HB_w hb_wa | exact after1 HB_w hb_wa | exact after2 HB_w hb_wa | exact after3 HB_w hb_wa | exact after4 HB_w hb_wa | exact after5 HB_w hb_wa
  have HN2 := Lib.hid (HNM.out wa HB_wa)
  cases h2 : namesB J l with
  | false =>
    rw [h2] at HN2 HR
    have HP := Lib.hid (show r = (false, 1) from HR.out)
    clear HR h1 h2
    go_wp2_with fail
    all_goals try (exfalso; omega)
    refine (HN2.out).mono ?_
    rintro e wb ⟨rfl, hb_wb⟩
    have HB_wb : Below w.heap.size w wb := by first | exact after0 HB_wa hb_wb | exact after1 HB_wa hb_wb | exact after2 HB_wa hb_wb | exact after3 HB_wa hb_wb | exact after4 HB_wa hb_wb | exact after5 HB_wa hb_wb
    go_wp2_with fail
    all_goals try (exfalso; omega)
    go_ret2
    exact ⟨by rw [HP.out]; rfl, HB_wb⟩
  | true =>
  rw [h2] at HN2 HR
  have HP := Lib.hid (show r = (checkB J l, 0) from HR.out)
  clear HR
  go_wp2_with fail
  all_goals try (exfalso; omega)
  refine (HN2.out).mono ?_
  rintro e wb ⟨rfl, hb_wb⟩
  have HB_wb : Below w.heap.size w wb := by first | exact after0 HB_wa hb_wb | exact after1 HB_wa hb_wb | exact after2 HB_wa hb_wb | exact after3 HB_wa hb_wb | exact after4 HB_wa hb_wb | exact after5 HB_wa hb_wb
  obtain rfl := hs.len
  obtain rfl := hj.len
  have hcap := hs.max
  have hle := hs.le
  have hcapj := hj.max
  have hlej := hj.le
  unfold maxLen at hcap hcapj
  have HS := Lib.hid hs
  have HJ := Lib.hid hj
  have HV := Lib.hid (validJ_iff.1 h1).2
  have hl100 := (validJ_iff.1 h1).1
  have HN := Lib.hid (namesB_iff.1 h2).2
  obtain ⟨i0, hi, hz0, hz1, hz2⟩ := info_parts info_got
  have HI := Lib.hid hi
  have HZ0 := Lib.hid hz0
  have HZ1 := Lib.hid hz1
  have HZ2 := Lib.hid hz2
  clear hi hz0 hz1 hz2 hs hj h1 h2 HN2 HNM HV0 hb_wa hb_wb HB_wa
  have hwb := HB_wb.size
  go_wp2_with (refine wpList_make_full _ rfl _ _ 64 rfl w.heap.size 66 i0 (.agg (Array.replicate 32 (.bool false))) 32 Try.underlying64 HI.out HZ0.out HZ1.out .i64 .i64 _ _ J.length rfl rfl rfl rfl (by rw [HZ2.out]; omega) (by unfold maxLen; omega) hwb ?_; intro W1 ho1 hg1)
  obtain ⟨G, hG⟩ : ∃ G, wb.heap.size = G := ⟨_, rfl⟩
  have hB1 : Below w.heap.size w W1 := HB_wb.trans (below_grown (OwnL.nil (w := wb) (base := w.heap.size) (e := 3) (size := 1) (enc := cN)) (Nat.le_refl _) hwb hg1)
  have hGL : OwnL W1 w.heap.size 66 32 cG (.slice (some ⟨G, 0, none⟩) J.length J.length) (gl J []) := by
    rw [gl_nil]
    unfold OwnL
    rw [flat_cG, List.length_replicate]
    rw [cells_got, made_repl _ _ _ (by decide)] at ho1
    rw [← hG]
    exact ho1
  have HGL := Lib.hid hGL
  rw [hG] at hwb ⊢
  have hGw := hwb
  clear ho1 hg1 hGL hG hwb HB_wb
  try go_wp2_with fail
  have HYS := Lib.hid (fun k i p h e hi h1 h2 => @gl_yes J l k i p h e hi h1 h2)
  have HOA := Lib.hid (fun k h i p hi hp => @okAt_at J l k h i p hi hp)
  have HCN := Lib.hid (fun k h e => @check_no J l k h e)
  have HCY := Lib.hid (fun h => @check_yes J l h)
  go_loopw [23] (fun i wr => ∃ k : Nat, k ≤ l.length ∧ i = .int .i64 k ∧ Below w.heap.size w wr ∧ Hid (OwnL wr w.heap.size 66 32 cG (.slice (some ⟨G, 0, none⟩) J.length J.length) (gl J (l.take k))) ∧ Hid (∀ i, i < k → okAt J l i = true)) (fun i _ => l.length - (intOf i).toNat)
  case atStart => exact ⟨0, Nat.zero_le _, rfl, hB1, HGL, fun i h => absurd h (Nat.not_lt_zero _)⟩
  case round =>
    clear HGL hB1
    obtain ⟨k, hk, rfl, HB_wr, HGL, HOK⟩ := hrel
    by_cases hlt : k < l.length
    · obtain ⟨b, off, rfl, hb, hrow⟩ := HS.out.get hlt
      obtain ⟨e_0, e_1, e_2⟩ := ((hrow k hlt).below HB_wr hb).c3
      obtain ⟨j, p, hj1, hp1, hjl, hp32, hpp⟩ := name_at HV.out (HN.out _ (List.getElem_mem hlt))
      have HYK := Lib.hid (fun e => HYS.out k j p hlt e hjl hj1 hp1)
      have HOK1 := Lib.hid (HOA.out k hlt j p hj1 hp1)
      have HNK := Lib.hid (HCN.out k hlt)
      have HIT := Lib.hid (fun W (hW : Below w.heap.size w W) => inTime_any jo J.length cap J l[k] W (HJ.out.below hW) (by rw [hj1]; omega) (by rw [hj1]; omega))
      clear hrow
      generalize l[k] = x at *
      obtain ⟨x0, x1, x2⟩ := x
      dsimp only at hj1 hp1 e_0 e_1 e_2 HIT HYK
      subst hj1
      subst hp1
      obtain ⟨R, hR⟩ : ∃ R, wr.heap.size = R := ⟨_, rfl⟩
      obtain ⟨W2, hW2, hB2, hZ2, hb2⟩ := boxes1 wr [.int .i64 x0, .int .i64 (j : Int), .int .i64 (p : Int)] 46
      rw [hR] at hb2
      have HB_W2 : Below w.heap.size w W2 := after0 HB_wr hB2
      have HGL2 := Lib.hid (HGL.out.below hB2)
      obtain ⟨f_0, f_1, f_2⟩ := hb2.c3
      have H_x := Lib.hid hb2
      have HIT2 := Lib.hid (fun W (hW : Below W2.heap.size W2 W) => HIT.out W (after0 HB_W2 hW))
      have hRG : G < R := by rw [← hR]; exact (World.ownsRow.lt HGL.out G rfl).2
      have hgj : (gl J (l.take k))[j]? = some (gotF J (l.take k) j) := by rw [List.getElem?_eq_getElem (by rw [gl_len]; exact hjl), gl_get hjl]
      have hcell := HGL2.out.cellG cG_len (j := j) (i := p) hgj (cG_get _ hp32)
      have HGJ := Lib.hid hgj
      clear hB2 hZ2 hb2 HGL HIT hgj
      have hjli : (j : Int) < (J.length : Int) := by omega
      have hpi : (p : Int) < 32 := by omega
      go_wp2_with fail
      clear hW2 hR e_0 e_1 e_2
      cases hit : inT J ⟨x0, j, p⟩ with
      | false =>
        rw [hit] at HOK1 HIT2
        have HP2 := Lib.hid (show r = (false, 0) by rw [HP.out, HNK.out (by rw [HOK1.out]; rfl)])
        clear hit HOK1 HNK HYK
        have y_f_0 := cell_regrown f_0
        have y_f_1 := cell_regrown f_1
        have y_f_2 := cell_regrown f_2
        clear f_0 f_1 f_2
        have y_g := cell_regrown hcell
        clear hcell
        refine wp_region_plan (C := fun w' => ∃ p : Regrown, w' = grow (redrawn W2 p.d) p.os) (.q 0 (.q 1 (.e 2 (.q 3 (.q 4 (.q 5 (.q 6 (.q 7 (.q 8 (.q 9 (.q 10 (.q 11 (.q 12 (.q 13 (.done))))))))))))))) 14 (by kernel_rfl) (by kernel_rfl) (grew_drew _) ?_
        repeat (any_goals (first | (go_big_quiet_skip; refine wpQuiet_nil ?_) | (go_big_quiet_want; go_big_quiet_op; go_big_quiet_on; refine wpQuiet_nil ?_) | ((with_reducible apply q_split); exact rfl; intro q hq; cases q <;> (rw [hq]; (try first | replace hq := bnot_t hq | replace hq := bnot_f hq); (try first | replace hq := of_decide_eq_true hq | replace hq := of_decide_eq_false hq | replace hq := eq_of_beq hq); (try first | replace hq := Int.not_lt.1 hq | replace hq := Int.not_le.1 hq | replace hq := Nat.not_lt.1 hq | replace hq := Nat.not_le.1 hq); try (exfalso; omega))) | (refine plan_q rfl rfl ?_)))
        refine plan_e rfl ?_
        go_wp2_with fail
        refine (HIT2.out _ (Below.refl _ _).drew).mono ?_
        rintro e w3 ⟨rfl, hb_w3⟩
        have HW_w3 : Below W2.heap.size W2 w3 := below_undrew hb_w3
        clear hb_w3
        go_wp2_with fail
        refine MixPost.intro (grew_of_below HW_w3) ?_
        repeat (any_goals (first | (go_big_quiet_skip; refine wpQuiet_nil ?_) | (go_big_quiet_want; go_big_quiet_op; go_big_quiet_on; refine wpQuiet_nil ?_) | ((with_reducible apply q_split); exact rfl; intro q hq; cases q <;> (rw [hq]; (try first | replace hq := bnot_t hq | replace hq := bnot_f hq); (try first | replace hq := of_decide_eq_true hq | replace hq := of_decide_eq_false hq | replace hq := eq_of_beq hq); (try first | replace hq := Int.not_lt.1 hq | replace hq := Int.not_le.1 hq | replace hq := Nat.not_lt.1 hq | replace hq := Nat.not_le.1 hq); try (exfalso; omega))) | (refine plan_q rfl rfl ?_)))
        clear y_f_0 y_f_1 y_f_2
        clear y_g
        all_goals refine plan_done ?_
        all_goals (try simp only [List.drop_succ_cons, List.drop_zero])
        all_goals (try go_wp2_with fail)
        all_goals refine NoPanic.normal ?_
        all_goals (try go_wp2_with fail)
        have HB_w3 := after0 HB_W2 HW_w3
        go_ret2
        exact ⟨by rw [HP2.out]; rfl, HB_w3⟩
      | true =>
      rw [hit] at HOK1 HIT2
      have HYX := Lib.hid (HYK.out hit)
      clear hit HYK
      cases hgt : gotF J (l.take k) j p with
      | true =>
        rw [hgt] at HOK1 hcell
        have HP2 := Lib.hid (show r = (false, 0) by rw [HP.out, HNK.out (by rw [HOK1.out]; rfl)])
        clear hgt HOK1 HNK
        have y_f_0 := cell_regrown f_0
        have y_f_1 := cell_regrown f_1
        have y_f_2 := cell_regrown f_2
        clear f_0 f_1 f_2
        have y_g := cell_regrown hcell
        clear hcell
        refine wp_region_plan (C := fun w' => ∃ p : Regrown, w' = grow (redrawn W2 p.d) p.os) (.q 0 (.q 1 (.e 2 (.q 3 (.q 4 (.q 5 (.q 6 (.q 7 (.q 8 (.q 9 (.q 10 (.q 11 (.q 12 (.q 13 (.done))))))))))))))) 14 (by kernel_rfl) (by kernel_rfl) (grew_drew _) ?_
        repeat (any_goals (first | (go_big_quiet_skip; refine wpQuiet_nil ?_) | (go_big_quiet_want; go_big_quiet_op; go_big_quiet_on; refine wpQuiet_nil ?_) | ((with_reducible apply q_split); exact rfl; intro q hq; cases q <;> (rw [hq]; (try first | replace hq := bnot_t hq | replace hq := bnot_f hq); (try first | replace hq := of_decide_eq_true hq | replace hq := of_decide_eq_false hq | replace hq := eq_of_beq hq); (try first | replace hq := Int.not_lt.1 hq | replace hq := Int.not_le.1 hq | replace hq := Nat.not_lt.1 hq | replace hq := Nat.not_le.1 hq); try (exfalso; omega))) | (refine plan_q rfl rfl ?_)))
        refine plan_e rfl ?_
        go_wp2_with fail
        refine (HIT2.out _ (Below.refl _ _).drew).mono ?_
        rintro e w3 ⟨rfl, hb_w3⟩
        have HW_w3 : Below W2.heap.size W2 w3 := below_undrew hb_w3
        clear hb_w3
        go_wp2_with fail
        refine MixPost.intro (grew_of_below HW_w3) ?_
        repeat (any_goals (first | (go_big_quiet_skip; refine wpQuiet_nil ?_) | (go_big_quiet_want; go_big_quiet_op; go_big_quiet_on; refine wpQuiet_nil ?_) | ((with_reducible apply q_split); exact rfl; intro q hq; cases q <;> (rw [hq]; (try first | replace hq := bnot_t hq | replace hq := bnot_f hq); (try first | replace hq := of_decide_eq_true hq | replace hq := of_decide_eq_false hq | replace hq := eq_of_beq hq); (try first | replace hq := Int.not_lt.1 hq | replace hq := Int.not_le.1 hq | replace hq := Nat.not_lt.1 hq | replace hq := Nat.not_le.1 hq); try (exfalso; omega))) | (refine plan_q rfl rfl ?_)))
        clear y_f_0 y_f_1 y_f_2
        clear y_g
        all_goals refine plan_done ?_
        all_goals (try simp only [List.drop_succ_cons, List.drop_zero])
        all_goals (try go_wp2_with fail)
        all_goals refine NoPanic.normal ?_
        all_goals (try go_wp2_with fail)
        have HB_w3 := after0 HB_W2 HW_w3
        go_ret2
        exact ⟨by rw [HP2.out]; rfl, HB_w3⟩
      | false =>
        rw [hgt] at HOK1 hcell
        have HOKN := Lib.hid (show ∀ i, i < k + 1 → okAt J l i = true from fun i hi => by
          by_cases e : i = k
          · subst e; rw [HOK1.out]; rfl
          · exact HOK.out i (by omega))
        clear hgt HOK1 HNK HOK
        have y_f_0 := cell_regrown f_0
        have y_f_1 := cell_regrown f_1
        have y_f_2 := cell_regrown f_2
        clear f_0 f_1 f_2
        have y_g := cell_regrown hcell
        clear hcell
        refine wp_region_plan (C := fun w' => ∃ p : Regrown, w' = grow (redrawn W2 p.d) p.os) (.q 0 (.q 1 (.e 2 (.q 3 (.q 4 (.q 5 (.q 6 (.q 7 (.q 8 (.q 9 (.q 10 (.q 11 (.q 12 (.q 13 (.done))))))))))))))) 14 (by kernel_rfl) (by kernel_rfl) (grew_drew _) ?_
        repeat (any_goals (first | (go_big_quiet_skip; refine wpQuiet_nil ?_) | (go_big_quiet_want; go_big_quiet_op; go_big_quiet_on; refine wpQuiet_nil ?_) | ((with_reducible apply q_split); exact rfl; intro q hq; cases q <;> (rw [hq]; (try first | replace hq := bnot_t hq | replace hq := bnot_f hq); (try first | replace hq := of_decide_eq_true hq | replace hq := of_decide_eq_false hq | replace hq := eq_of_beq hq); (try first | replace hq := Int.not_lt.1 hq | replace hq := Int.not_le.1 hq | replace hq := Nat.not_lt.1 hq | replace hq := Nat.not_le.1 hq); try (exfalso; omega))) | (refine plan_q rfl rfl ?_)))
        refine plan_e rfl ?_
        go_wp2_with fail
        refine (HIT2.out _ (Below.refl _ _).drew).mono ?_
        rintro e w3 ⟨rfl, hb_w3⟩
        have HW_w3 : Below W2.heap.size W2 w3 := below_undrew hb_w3
        clear hb_w3
        go_wp2_with fail
        refine MixPost.intro (grew_of_below HW_w3) ?_
        repeat (any_goals (first | (go_big_quiet_skip; refine wpQuiet_nil ?_) | (go_big_quiet_want; go_big_quiet_op; go_big_quiet_on; refine wpQuiet_nil ?_) | ((with_reducible apply q_split); exact rfl; intro q hq; cases q <;> (rw [hq]; (try first | replace hq := bnot_t hq | replace hq := bnot_f hq); (try first | replace hq := of_decide_eq_true hq | replace hq := of_decide_eq_false hq | replace hq := eq_of_beq hq); (try first | replace hq := Int.not_lt.1 hq | replace hq := Int.not_le.1 hq | replace hq := Nat.not_lt.1 hq | replace hq := Nat.not_le.1 hq); try (exfalso; omega))) | (refine plan_q rfl rfl ?_)))
        clear y_f_0 y_f_1 y_f_2
        clear y_g
        all_goals refine plan_done ?_
        all_goals (try simp only [List.drop_succ_cons, List.drop_zero])
        all_goals (try go_wp2_with fail)
        all_goals refine NoPanic.normal ?_
        all_goals (try go_wp2_with fail)
        have HB_w3 := after0 HB_W2 HW_w3
        obtain ⟨V, hV⟩ : ∃ V, w3.drew = V := ⟨_, rfl⟩
        have hdr : Below W2.heap.size W2 V := HW_w3.trans (hV ▸ ((Below.refl w3.heap.size w3).drew.mono HW_w3.size))
        have HGV := Lib.hid (HGL2.out.below hdr)
        have HXV := Lib.hid (H_x.out.below hdr)
        have HB_V : Below w.heap.size w V := after0 HB_W2 hdr
        have hcell := HGV.out.cellG cG_len (j := j) (i := p) HGJ.out (cG_get _ hp32)
        have hfr := HGV.out.frozenG
        have hst := OwnL.setG cG_len HGV.out (j := j) (by rw [gl_len]; exact hjl) (i := p) hp32 (u := .bool true) (a := fun q => if q = p then true else gotF J (l.take k) j q) (by rw [gl_get hjl]; exact cG_set _)
        have HST := Lib.hid hst
        obtain ⟨V2, hV2⟩ : ∃ V2, V.setCell ⟨G, j * 32 + p, none⟩ (.bool true) = V2 := ⟨_, rfl⟩
        rw [hV2] at HST
        have HX2 : Box V2 R 46 [.int .i64 x0, .int .i64 (j : Int), .int .i64 (p : Int)] := hV2 ▸ HXV.out.other (by omega)
        have c_0 := Lib.hid (show V.cell? ⟨R, 1, none⟩ = some (.int .i64 (j : Int)) ∧ V.cell? ⟨R, 2, none⟩ = some (.int .i64 (p : Int)) from ⟨HXV.out.c3.2.1, HXV.out.c3.2.2⟩)
        have c_2 := Lib.hid (show V2.cell? ⟨R, 1, none⟩ = some (.int .i64 (j : Int)) ∧ V2.cell? ⟨R, 2, none⟩ = some (.int .i64 (p : Int)) from ⟨HX2.c3.2.1, HX2.c3.2.2⟩)
        have HB_V2 : Below w.heap.size w V2 := hV2 ▸ HB_V.setCell (p := ⟨G, j * 32 + p, none⟩) hGw _
        have y_1 : ∀ q : Wc (fun W => W.cell? ⟨R, 1, none⟩ = some (.int .i64 (j : Int)) ∧ W.cell? ⟨R, 2, none⟩ = some (.int .i64 (p : Int))), q.w.cell? ⟨R, 1, none⟩ = some (.int .i64 (j : Int)) := fun q => q.h.1
        have y_2 : ∀ q : Wc (fun W => W.cell? ⟨R, 1, none⟩ = some (.int .i64 (j : Int)) ∧ W.cell? ⟨R, 2, none⟩ = some (.int .i64 (p : Int))), q.w.cell? ⟨R, 2, none⟩ = some (.int .i64 (p : Int)) := fun q => q.h.2
        have y_n : Nonempty (Wc (fun W => W.cell? ⟨R, 1, none⟩ = some (.int .i64 (j : Int)) ∧ W.cell? ⟨R, 2, none⟩ = some (.int .i64 (p : Int)))) := ⟨⟨V, c_0.out⟩⟩
        clear hst HXV HX2 hdr HGV HGJ H_x HGL2 HW_w3 HIT2
        refine wp_region_plan (C := fun w' => ∃ p : Wc (fun W => W.cell? ⟨R, 1, none⟩ = some (.int .i64 (j : Int)) ∧ W.cell? ⟨R, 2, none⟩ = some (.int .i64 (p : Int))), w' = p.w) (.q 0 (.q 1 (.q 2 (.q 3 (.q 4 (.q 5 (.q 6 (.e 7 (.done))))))))) 8 (by kernel_rfl) (by kernel_rfl) ⟨⟨_, ?_⟩, rfl⟩ ?_
        · exact (hV ▸ c_0.out : _)
        repeat (any_goals (first | (go_big_quiet_skip; refine wpQuiet_nil ?_) | (go_big_quiet_want; go_big_quiet_op; go_big_quiet_on; refine wpQuiet_nil ?_) | ((with_reducible apply q_split); exact rfl; intro q hq; cases q <;> (rw [hq]; (try first | replace hq := bnot_t hq | replace hq := bnot_f hq); (try first | replace hq := of_decide_eq_true hq | replace hq := of_decide_eq_false hq | replace hq := eq_of_beq hq); (try first | replace hq := Int.not_lt.1 hq | replace hq := Int.not_le.1 hq | replace hq := Nat.not_lt.1 hq | replace hq := Nat.not_le.1 hq); try (exfalso; omega))) | (refine plan_q rfl rfl ?_)))
        rw [show ({ heap := w3.heap, tape := w3.tape, drawn := w3.drawn + 1, os := w3.os, output := w3.output } : World) = V from hV]
        refine plan_e rfl ?_
        go_wp2_with fail
        refine MixPost.intro ⟨⟨_, c_2.out⟩, rfl⟩ ?_
        clear y_1 y_2 y_n hcell hfr hV hV2 c_0 c_2
        refine plan_done ?_
        try simp only [List.drop_succ_cons, List.drop_zero]
        go_wp2_with fail
        refine NoPanic.normal ?_
        go_wp2_with fail
        go_roundw
        case rel => exact ⟨k + 1, hlt, by go_num, HB_V2, by rw [HYX.out]; exact HST.out.1, HOKN⟩
        case measure => simp [intOf] <;> omega
    · obtain rfl : k = l.length := by omega
      have HP2 := Lib.hid (show r = (true, 0) by rw [HP.out, HCY.out HOK.out])
      go_wp2_with fail
      all_goals try (exfalso; omega)
      go_ret2
      exact ⟨by rw [HP2.out]; rfl, HB_wr⟩
end Go.Proofs.Ytheioedggjbphaa
