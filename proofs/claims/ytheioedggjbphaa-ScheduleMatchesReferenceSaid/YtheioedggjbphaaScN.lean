/-
  Walks of the layer 'schedule': late, Late.
-/
import Derived.Test.YtheioedggjbphaaScM
set_option linter.unusedVariables false
namespace Go.Proofs.Ytheioedggjbphaa
open Go Go.RowKit Sc Sk Go.Sort
theorem namesB_iff {J : List Jb} {l : List Sn} : namesB J l = true ↔ (riseB l = true ∧ ∀ s ∈ l, nameB J s = true) := by unfold namesB; simp
theorem nameB_iff {J : List Jb} {s : Sn} : nameB J s = true ↔ (0 ≤ s.job ∧ s.job < J.length ∧ 0 ≤ s.piece ∧ s.piece < (jat J s.job.toNat).pieces) := by unfold nameB; simp
/-- what is named of a valid job is an index of its row -/
theorem name_at {J : List Jb} (hv : ∀ j ∈ J, jobB j = true) {s : Sn} (h : nameB J s = true) : ∃ i p : Nat, s.job = i ∧ s.piece = p ∧ i < J.length ∧ p < 32 ∧ (p : Int) < (jat J i).pieces := by
  obtain ⟨h1, h2, h3, h4⟩ := nameB_iff.1 h
  obtain ⟨i, hi⟩ : ∃ i : Nat, s.job = i := ⟨s.job.toNat, by omega⟩
  obtain ⟨p, hp⟩ : ∃ p : Nat, s.piece = p := ⟨s.piece.toNat, by omega⟩
  rw [hi, Int.toNat_natCast] at h4
  have hil : i < J.length := by omega
  have := (jobB_iff.1 (hv _ (List.getElem_mem hil))).2.2.2.2.1
  rw [← jat_get hil] at this
  exact ⟨i, p, hi, hp, hil, by omega, by omega⟩
theorem sl_got {w : World} {base G n cap k m : Nat} {fs : List (Nat → Bool)} {f : Nat → Bool} (h : OwnL w base 66 32 cG (.slice (some ⟨G, 0, none⟩) n cap) fs) (hk : fs[k]? = some f) (hm : m ≤ 32) : Sl w 1 cBo (some ⟨G, k * 32, none⟩) m 32 ((List.range m).map f) := by
  refine ⟨by simp, by simpa using hm, by unfold maxLen; omega, (fun h => by cases h), fun _ => ⟨G, k * 32, rfl, (World.ownsRow.lt h G rfl).2, fun i hi => ?_⟩⟩
  have hi2 : i < m := by simpa using hi
  have := h.cellG cG_len hk (cG_get f (show i < 32 by omega))
  simp only [List.getElem_map, List.getElem_range, Nat.mul_one]
  intro j u hj
  match j, hj with
  | 0, hj => cases hj; exact this
set_option maxRecDepth 100000 in
set_option maxHeartbeats 8000000 in
theorem late_any (jo : Option Addr) (n cap : Nat) (J : List Jb) (ao : Option Addr) (m capa : Nat) (l : List Sn) (w : World) (hj : Sl w 4 cJ jo n cap J) (hs : Sl w 3 cS ao m capa l) (hv : validJ J = true) (hn : namesB J l = true) :
    Calls Try.prog 41 #[.slice jo n cap, .slice ao m capa] w (fun e w' => ∃ v, e = .returned v ∧ OwnL w' w.heap.size 3 1 cI v (lateF J l) ∧ Below w.heap.size w w') := by
  obtain rfl := hs.len
  obtain rfl := hj.len
  have hcap := hs.max
  have hle := hs.le
  have hcapj := hj.max
  have hlej := hj.le
  unfold maxLen at hcap hcapj
  have HS := Lib.hid hs
  have HJ := Lib.hid hj
  have HV := Lib.hid (validJ_iff.1 hv).2
  have hl100 := (validJ_iff.1 hv).1
  have HN := Lib.hid (namesB_iff.1 hn).2
  have HB_w : Below w.heap.size w w := Below.refl _ _
  obtain ⟨i0, hi, hz0, hz1, hz2⟩ := info_parts info_got
  obtain ⟨i1, hy, hy0, hy1, hy2⟩ := info_parts info_int
  have HI := Lib.hid hi
  have HZ0 := Lib.hid hz0
  have HZ1 := Lib.hid hz1
  have HZ2 := Lib.hid hz2
  have HY := Lib.hid hy
  have HY0 := Lib.hid hy0
  have HY1 := Lib.hid hy1
  have HY2 := Lib.hid hy2
  clear hi hz0 hz1 hz2 hy hy0 hy1 hy2 hs hj hv hn
  go_enter Try.func41, Try.ntmps41
  go_wp2_with (refine wpList_make_full _ rfl _ _ 64 rfl w.heap.size 66 i0 (.agg (Array.replicate 32 (.bool false))) 32 Try.underlying64 HI.out HZ0.out HZ1.out .i64 .i64 _ _ J.length rfl rfl rfl rfl (by rw [HZ2.out]; omega) (by unfold maxLen; omega) (Nat.le_refl _) ?_; intro W1 ho1 hg1)
  obtain ⟨G, hG⟩ : ∃ G, w.heap.size = G := ⟨_, rfl⟩
  have hB1 := below_grown (OwnL.nil (w := w) (base := w.heap.size) (e := 3) (size := 1) (enc := cN)) (Nat.le_refl _) (Nat.le_refl _) hg1
  have hGL : OwnL W1 w.heap.size 66 32 cG (.slice (some ⟨G, 0, none⟩) J.length J.length) (gl J []) := by
    rw [gl_nil]
    unfold OwnL
    rw [flat_cG, List.length_replicate]
    rw [cells_got, made_repl _ _ _ (by decide)] at ho1
    rw [← hG]
    exact ho1
  have HGL := Lib.hid hGL
  rw [hG]
  clear ho1 hg1 hGL
  try go_wp2_with fail
  have HYS := Lib.hid (fun k i p h e hi h1 h2 => @gl_yes J l k i p h e hi h1 h2)
  have HNO := Lib.hid (fun k h e => @gl_no J l k h e)
  go_loopw [16] (fun i wr => ∃ k : Nat, k ≤ l.length ∧ i = .int .i64 k ∧ Below w.heap.size w wr ∧ Hid (OwnL wr w.heap.size 66 32 cG (.slice (some ⟨G, 0, none⟩) J.length J.length) (gl J (l.take k)))) (fun i _ => l.length - (intOf i).toNat)
  case atStart => exact ⟨0, Nat.zero_le _, rfl, hB1, HGL⟩
  case round =>
    clear HGL hB1
    obtain ⟨k, hk, rfl, HB_wr, HGL⟩ := hrel
    by_cases hlt : k < l.length
    · obtain ⟨b, off, rfl, hb, hrow⟩ := HS.out.get hlt
      obtain ⟨e_0, e_1, e_2⟩ := ((hrow k hlt).below HB_wr hb).c3
      obtain ⟨j, p, hj1, hp1, hjl, hp32, hpp⟩ := name_at HV.out (HN.out _ (List.getElem_mem hlt))
      have HY1 := Lib.hid (fun e => HYS.out k j p hlt e hjl hj1 hp1)
      have HN1 := Lib.hid (HNO.out k hlt)
      have HIT := Lib.hid (fun W (hW : Below w.heap.size w W) => inTime_any jo J.length cap J l[k] W (HJ.out.below hW) (by rw [hj1]; omega) (by rw [hj1]; omega))
      clear hrow
      generalize l[k] = x at *
      obtain ⟨x0, x1, x2⟩ := x
      dsimp only at hj1 hp1 e_0 e_1 e_2 HIT HY1 HN1
      subst hj1
      subst hp1
      obtain ⟨R, hR⟩ : ∃ R, wr.heap.size = R := ⟨_, rfl⟩
      obtain ⟨W2, hW2, hB2, hZ2, hb2⟩ := boxes1 wr [.int .i64 x0, .int .i64 (j : Int), .int .i64 (p : Int)] 46
      rw [hR] at hb2
      have HB_W2 : Below w.heap.size w W2 := after0 HB_wr hB2
      have HGL2 := Lib.hid (HGL.out.below hB2)
      obtain ⟨f_0, f_1, f_2⟩ := hb2.c3
      have H_x := Lib.hid hb2
      have HIT2 := Lib.hid (HIT.out W2 HB_W2)
      have hRG : G < R := by rw [← hR]; exact (World.ownsRow.lt HGL.out G rfl).2
      clear hB2 hZ2 hb2 HGL HIT
      cases hit : inT J ⟨x0, j, p⟩ with
      | false =>
        rw [hit] at HIT2
        have HNX := Lib.hid (HN1.out hit)
        clear HY1 HN1 hit
        go_wp2_with fail
        all_goals try (exfalso; omega)
        refine (HIT2.out).mono ?_
        rintro e w3 ⟨rfl, hb_w3⟩
        have HB_w3 : Below w.heap.size w w3 := by first | exact after0 HB_W2 hb_w3 | exact after1 HB_W2 hb_w3 | exact after2 HB_W2 hb_w3 | exact after3 HB_W2 hb_w3 | exact after4 HB_W2 hb_w3 | exact after5 HB_W2 hb_w3
        have HGL3 := Lib.hid (HGL2.out.below hb_w3)
        go_wp2_with fail
        all_goals try (exfalso; omega)
        go_roundw
        case rel => exact ⟨k + 1, hlt, by go_num, HB_w3, by rw [HNX.out]; exact HGL3.out⟩
        case measure => simp [intOf] <;> omega
      | true =>
        rw [hit] at HIT2
        have HYX := Lib.hid (HY1.out hit)
        clear HY1 HN1 hit
        go_wp2_with fail
        all_goals try (exfalso; omega)
        refine (HIT2.out).mono ?_
        rintro e w3 ⟨rfl, hb_w3⟩
        have HB_w3 : Below w.heap.size w w3 := by first | exact after0 HB_W2 hb_w3 | exact after1 HB_W2 hb_w3 | exact after2 HB_W2 hb_w3 | exact after3 HB_W2 hb_w3 | exact after4 HB_W2 hb_w3 | exact after5 HB_W2 hb_w3
        have HGL3 := Lib.hid (HGL2.out.below hb_w3)
        have H_x3 := Lib.hid (H_x.out.below hb_w3)
        clear hW2 hR f_0 f_1 f_2 e_0 e_1 e_2 HGL2 H_x HIT2
        go_wp2_with fail
        all_goals try (exfalso; omega)
        obtain ⟨V, hV⟩ : ∃ V, w3.drew = V := ⟨_, rfl⟩
        have hdr : Below w3.heap.size w3 V := hV ▸ (Below.refl _ _).drew
        have HGV := Lib.hid (HGL3.out.below hdr)
        have HXV := Lib.hid (H_x3.out.below hdr)
        have HB_V : Below w.heap.size w V := after0 HB_w3 hdr
        have hgj : (gl J (l.take k))[j]? = some (gotF J (l.take k) j) := by rw [List.getElem?_eq_getElem (by rw [gl_len]; exact hjl), gl_get hjl]
        have hcell := HGV.out.cellG cG_len (j := j) (i := p) hgj (cG_get _ hp32)
        have hfr := HGV.out.frozenG
        have hst := OwnL.setG cG_len HGV.out (j := j) (by rw [gl_len]; exact hjl) (i := p) hp32 (u := .bool true) (a := fun q => if q = p then true else gotF J (l.take k) j q) (by rw [gl_get hjl]; exact cG_set _)
        have HST := Lib.hid hst
        obtain ⟨V2, hV2⟩ : ∃ V2, V.setCell ⟨G, j * 32 + p, none⟩ (.bool true) = V2 := ⟨_, rfl⟩
        rw [hV2] at HST
        have HX2 : Box V2 R 46 [.int .i64 x0, .int .i64 (j : Int), .int .i64 (p : Int)] := hV2 ▸ HXV.out.other (by omega)
        have c_0 := Lib.hid (show V.cell? ⟨R, 1, none⟩ = some (.int .i64 (j : Int)) ∧ V.cell? ⟨R, 2, none⟩ = some (.int .i64 (p : Int)) from ⟨HXV.out.c3.2.1, HXV.out.c3.2.2⟩)
        have c_2 := Lib.hid (show V2.cell? ⟨R, 1, none⟩ = some (.int .i64 (j : Int)) ∧ V2.cell? ⟨R, 2, none⟩ = some (.int .i64 (p : Int)) from ⟨HX2.c3.2.1, HX2.c3.2.2⟩)
        have HB_V2 : Below w.heap.size w V2 := hV2 ▸ HB_V.setCell (p := ⟨G, j * 32 + p, none⟩) (Nat.le_of_eq hG) _
        have y_1 : ∀ q : Wc (fun W => W.cell? ⟨R, 1, none⟩ = some (.int .i64 (j : Int)) ∧ W.cell? ⟨R, 2, none⟩ = some (.int .i64 (p : Int))), q.w.cell? ⟨R, 1, none⟩ = some (.int .i64 (j : Int)) := fun q => q.h.1
        have y_2 : ∀ q : Wc (fun W => W.cell? ⟨R, 1, none⟩ = some (.int .i64 (j : Int)) ∧ W.cell? ⟨R, 2, none⟩ = some (.int .i64 (p : Int))), q.w.cell? ⟨R, 2, none⟩ = some (.int .i64 (p : Int)) := fun q => q.h.2
        have y_n : Nonempty (Wc (fun W => W.cell? ⟨R, 1, none⟩ = some (.int .i64 (j : Int)) ∧ W.cell? ⟨R, 2, none⟩ = some (.int .i64 (p : Int)))) := ⟨⟨V, c_0.out⟩⟩
        have hjli : (j : Int) < (J.length : Int) := by omega
        have hpi : (p : Int) < 32 := by omega
        clear hst HXV HX2 hdr HGV hgj H_x3 HGL3
        refine wp_region_plan (C := fun w' => ∃ p : Wc (fun W => W.cell? ⟨R, 1, none⟩ = some (.int .i64 (j : Int)) ∧ W.cell? ⟨R, 2, none⟩ = some (.int .i64 (p : Int))), w' = p.w) (.q 0 (.q 1 (.q 2 (.q 3 (.q 4 (.q 5 (.q 6 (.e 7 (.done))))))))) 8 (by kernel_rfl) (by kernel_rfl) ⟨⟨_, ?_⟩, rfl⟩ ?_
        · exact (hV ▸ c_0.out : _)
        repeat (any_goals (first | (go_big_quiet_skip; refine wpQuiet_nil ?_) | (go_big_quiet_want; go_big_quiet_op; go_big_quiet_on; refine wpQuiet_nil ?_) | ((with_reducible apply q_split); exact rfl; intro q hq; cases q <;> (rw [hq]; (try first | replace hq := bnot_t hq | replace hq := bnot_f hq); (try first | replace hq := of_decide_eq_true hq | replace hq := of_decide_eq_false hq | replace hq := eq_of_beq hq); (try first | replace hq := Int.not_lt.1 hq | replace hq := Int.not_le.1 hq | replace hq := Nat.not_lt.1 hq | replace hq := Nat.not_le.1 hq); try (exfalso; omega))) | (refine plan_q rfl rfl ?_)))
        rw [show ({ heap := w3.heap, tape := w3.tape, drawn := w3.drawn + 1, os := w3.os, output := w3.output } : World) = V from hV]
        refine plan_e rfl ?_
        go_wp2_with fail
        refine MixPost.intro ⟨⟨_, c_2.out⟩, rfl⟩ ?_
        clear y_1 y_2 y_n hcell hfr hV hV2 c_0 c_2
        refine plan_done ?_
        try simp only [List.drop_succ_cons, List.drop_zero]
        go_wp2_with fail
        refine NoPanic.normal ?_
        go_wp2_with fail
        go_roundw
        case rel => exact ⟨k + 1, hlt, by go_num, HB_V2, by rw [HYX.out]; exact HST.out.1⟩
        case measure => simp [intOf] <;> omega
    · obtain rfl : k = l.length := by omega
      rw [List.take_length] at HGL
      clear HYS HNO HN HS
      go_wp2_with fail
      all_goals try (exfalso; omega)
      have HBA := Lib.hid (Below.refl (G + 1) wr)
      have HBW := Lib.hid HB_wr
      have hGs : G < wr.heap.size := (World.ownsRow.lt HGL.out G rfl).2
      have hown : ∀ j, Value.ownBlock (.slice (some ⟨G, 0, none⟩) J.length J.length) = some j → j < G + 1 := fun j hj => by
        have : G = j := by simpa [Value.ownBlock] using hj
        omega
      have HLY := Lib.hid (fun k h => @lateF_yes J l k h)
      have HLN := Lib.hid (fun k h => @lateF_no J l k h)
      have HLL := Lib.hid (lateF_len J l)
      go_loopw [8, 33] (fun o i wr2 => ∃ k : Nat, k ≤ J.length ∧ i = .int .i64 k ∧ Hid (Below (G + 1) wr wr2) ∧ Hid (OwnL wr2 (G + 1) 3 1 cI o (((List.range k).filter (lateB J l)).map Int.ofNat))) (fun _ i _ => J.length - (intOf i).toNat)
      case atStart => exact ⟨0, Nat.zero_le _, rfl, HBA, OwnL.nil⟩
      case round =>
        clear HBA
        obtain ⟨k, hk, rfl, HBR, HO⟩ := hrel
        have HLK := Lib.hid (HLL.out k)
        by_cases hlt : k < J.length
        · have HB_r : Below w.heap.size w wr := HBW.out.trans (HBR.out.mono (by omega))
          obtain ⟨b, off, rfl, hb, hrow⟩ := HJ.out.get hlt
          obtain ⟨e_0, e_1, e_2, e_3⟩ := ((hrow k hlt).below HB_r hb).c4
          have hjv := jobB_iff.1 (HV.out _ (List.getElem_mem hlt))
          have hpc : (jat J k).pieces = J[k].pieces := by rw [jat_get hlt]
          have HYK := Lib.hid (HLY.out k)
          have HNK := Lib.hid (HLN.out k)
          have hlb : lateB J l k = ((List.range (jat J k).pieces.toNat).map (gotF J l k)).any (fun b => !b) := by unfold lateB; rw [List.any_map]; rfl
          have hgk : (gl J l)[k]? = some (gotF J l k) := by rw [List.getElem?_eq_getElem (by rw [gl_len]; exact hlt), gl_get hlt]
          rw [hpc] at hlb
          clear hrow hpc
          generalize J[k] = y at *
          obtain ⟨y0, y1, y2, y3⟩ := y
          dsimp only at e_0 e_1 e_2 e_3 hjv hlb
          obtain ⟨m, rfl⟩ : ∃ m : Nat, y2 = m := ⟨y2.toNat, by omega⟩
          rw [Int.toNat_natCast] at hlb
          have hm32 : m ≤ 32 := by omega
          have hmi : (m : Int) ≤ 32 := by omega
          have hkli : (k : Int) < (J.length : Int) := by omega
          clear hjv
          obtain ⟨R, hR⟩ : ∃ R, wr.heap.size = R := ⟨_, rfl⟩
          obtain ⟨W2, hW2, hB2, hZ2, hb2⟩ := boxes1 wr [.int .i64 y0, .int .i64 y1, .int .i64 (m : Int), .int .i64 y3] 44
          rw [hR] at hb2
          have hsr := HBR.out.size
          have HBR2 := Lib.hid (HBR.out.trans (hB2.mono (show G + 1 ≤ wr.heap.size by omega)))
          have HO2 := Lib.hid (HO.out.below hB2)
          obtain ⟨f_0, f_1, f_2, f_3⟩ := hb2.c4
          have HCT := Lib.hid (fun W (hW : Below W2.heap.size W2 W) => bcontains_any (some ⟨G, k * 32, none⟩) m 32 ((List.range m).map (gotF J l k)) W (sl_got (HGL.out.low (HBR2.out.trans (hW.mono (show G + 1 ≤ W2.heap.size by have := hB2.size; omega))) hown) hgk hm32))
          rw [← hlb] at HCT
          generalize lateB J l k = lb at *
          clear hB2 hZ2 hb2 HBR HO hlb hgk
          go_wp2_with fail
          clear hW2 hR e_0 e_1 e_2 e_3
          have y_f_0 := cell_regrown f_0
          have y_f_1 := cell_regrown f_1
          have y_f_2 := cell_regrown f_2
          have y_f_3 := cell_regrown f_3
          clear f_0 f_1 f_2 f_3
          cases lb
          · have HNX := Lib.hid (HNK.out rfl)
            clear HYK HNK
            refine wp_region_plan (C := fun w' => ∃ p : Regrown, w' = grow (redrawn W2 p.d) p.os) (.q 0 (.q 1 (.q 2 (.q 3 (.q 4 (.q 5 (.e 6 (.done)))))))) 7 (by kernel_rfl) (by kernel_rfl) (grew_drew _) ?_
            repeat (any_goals (first | (go_big_quiet_skip; refine wpQuiet_nil ?_) | (go_big_quiet_want; go_big_quiet_op; go_big_quiet_on; refine wpQuiet_nil ?_) | ((with_reducible apply q_split); exact rfl; intro q hq; cases q <;> (rw [hq]; (try first | replace hq := bnot_t hq | replace hq := bnot_f hq); (try first | replace hq := of_decide_eq_true hq | replace hq := of_decide_eq_false hq | replace hq := eq_of_beq hq); (try first | replace hq := Int.not_lt.1 hq | replace hq := Int.not_le.1 hq | replace hq := Nat.not_lt.1 hq | replace hq := Nat.not_le.1 hq); try (exfalso; omega))) | (refine plan_q rfl rfl ?_)))
            refine plan_e rfl ?_
            go_wp2_with fail
            refine (HCT.out _ (Below.refl _ _).drew).mono ?_
            rintro e w3 ⟨rfl, hb_w3⟩
            have HW_w3 : Below W2.heap.size W2 w3 := below_undrew hb_w3
            clear hb_w3
            go_wp2_with fail
            refine MixPost.intro (grew_of_below HW_w3) ?_
            repeat (any_goals (first | (go_big_quiet_skip; refine wpQuiet_nil ?_) | (go_big_quiet_want; go_big_quiet_op; go_big_quiet_on; refine wpQuiet_nil ?_) | ((with_reducible apply q_split); exact rfl; intro q hq; cases q <;> (rw [hq]; (try first | replace hq := bnot_t hq | replace hq := bnot_f hq); (try first | replace hq := of_decide_eq_true hq | replace hq := of_decide_eq_false hq | replace hq := eq_of_beq hq); (try first | replace hq := Int.not_lt.1 hq | replace hq := Int.not_le.1 hq | replace hq := Nat.not_lt.1 hq | replace hq := Nat.not_le.1 hq); try (exfalso; omega))) | (refine plan_q rfl rfl ?_)))
            have HBR3 := Lib.hid (HBR2.out.trans (HW_w3.mono (by have := HBR2.out.size; omega)))
            have HO3 := Lib.hid (HO2.out.below HW_w3)
            clear y_f_0 y_f_1 y_f_2 y_f_3
            all_goals refine plan_done ?_
            all_goals (try simp only [List.drop_succ_cons, List.drop_zero])
            all_goals (try go_wp2_with fail)
            all_goals refine NoPanic.normal ?_
            all_goals (try go_wp2_with fail)
            go_roundw
            case rel => exact ⟨k + 1, hlt, by go_num, HBR3, by rw [HNX.out]; exact HO3.out⟩
            case measure => simp [intOf] <;> omega
          · have HYX := Lib.hid (HYK.out rfl)
            clear HYK HNK
            refine wp_region_plan (C := fun w' => ∃ p : Regrown, w' = grow (redrawn W2 p.d) p.os) (.q 0 (.q 1 (.q 2 (.q 3 (.q 4 (.q 5 (.e 6 (.done)))))))) 7 (by kernel_rfl) (by kernel_rfl) (grew_drew _) ?_
            repeat (any_goals (first | (go_big_quiet_skip; refine wpQuiet_nil ?_) | (go_big_quiet_want; go_big_quiet_op; go_big_quiet_on; refine wpQuiet_nil ?_) | ((with_reducible apply q_split); exact rfl; intro q hq; cases q <;> (rw [hq]; (try first | replace hq := bnot_t hq | replace hq := bnot_f hq); (try first | replace hq := of_decide_eq_true hq | replace hq := of_decide_eq_false hq | replace hq := eq_of_beq hq); (try first | replace hq := Int.not_lt.1 hq | replace hq := Int.not_le.1 hq | replace hq := Nat.not_lt.1 hq | replace hq := Nat.not_le.1 hq); try (exfalso; omega))) | (refine plan_q rfl rfl ?_)))
            refine plan_e rfl ?_
            go_wp2_with fail
            refine (HCT.out _ (Below.refl _ _).drew).mono ?_
            rintro e w3 ⟨rfl, hb_w3⟩
            have HW_w3 : Below W2.heap.size W2 w3 := below_undrew hb_w3
            clear hb_w3
            go_wp2_with fail
            refine MixPost.intro (grew_of_below HW_w3) ?_
            repeat (any_goals (first | (go_big_quiet_skip; refine wpQuiet_nil ?_) | (go_big_quiet_want; go_big_quiet_op; go_big_quiet_on; refine wpQuiet_nil ?_) | ((with_reducible apply q_split); exact rfl; intro q hq; cases q <;> (rw [hq]; (try first | replace hq := bnot_t hq | replace hq := bnot_f hq); (try first | replace hq := of_decide_eq_true hq | replace hq := of_decide_eq_false hq | replace hq := eq_of_beq hq); (try first | replace hq := Int.not_lt.1 hq | replace hq := Int.not_le.1 hq | replace hq := Nat.not_lt.1 hq | replace hq := Nat.not_le.1 hq); try (exfalso; omega))) | (refine plan_q rfl rfl ?_)))
            have HBR3 := Lib.hid (HBR2.out.trans (HW_w3.mono (by have := HBR2.out.size; omega)))
            have HO3 := Lib.hid (HO2.out.below HW_w3)
            clear y_f_0 y_f_1 y_f_2 y_f_3
            clear HO2 HBR2 HCT HW_w3
            refine plan_done ?_
            try simp only [List.drop_succ_cons, List.drop_zero]
            try go_wp2_with fail
            refine NoPanic.normal ?_
            have hll := HLK.out
            generalize ((List.range k).filter (lateB J l)).map Int.ofNat = us at *
            have hz3 : G + 1 ≤ w3.heap.size := by have := HBR3.out.size; omega
            have HOX := Lib.hid (HO3.out.alloc (.cells #[.int .i64 (k : Int)] 3))
            have HSX : Hid (Sl (w3.alloc (.cells #[.int .i64 (k : Int)] 3)) 1 cI (some ⟨w3.heap.size, 0, none⟩) 1 1 [(k : Int)]) := Sl.one (x := (k : Int)) cI_len (Box.new w3 (cI (k : Int)) 3)
            have hsz : G + 1 ≤ (w3.alloc (.cells #[.int .i64 (k : Int)] 3)).heap.size := by simp; omega
            go_wp2_with (at_builtin; refine wpList_append_sl rfl _ _ 30 rfl (G + 1) 3 i1 _ 1 8 Try.underlying30 HY.out HY0.out HY1.out HY2.out rfl (by decide) cI_len cI_one _ us rfl HOX.out (some ⟨w3.heap.size, 0, none⟩) 1 1 [(k : Int)] rfl HSX.out (by unfold maxLen; omega) (by omega) hsz ?_)
            rintro v' w6 ho6 hg6 hgr6
            have HBR6 := Lib.hid ((HBR3.out.alloc hz3 _).trans (hg6 _ (Nat.le_refl _)))
            have HO6 := Lib.hid ho6
            clear hg6 hgr6 ho6 HOX HSX hsz HO3 HBR3
            go_wp2_with fail
            go_roundw
            case rel => exact ⟨k + 1, hlt, by go_num, HBR6, by rw [HYX.out]; exact HO6.out⟩
            case measure => simp [intOf] <;> omega
        · obtain rfl : k = J.length := by omega
          go_wp2_with fail
          all_goals try (exfalso; omega)
          go_ret
          exact ⟨_, rfl, by first | exact HO.out.mono (by omega) | (rw [hG]; exact HO.out.mono (by omega)), by first | exact HBW.out.trans (HBR.out.mono (by omega)) | (rw [hG]; exact HBW.out.trans (HBR.out.mono (by omega)))⟩
end Go.Proofs.Ytheioedggjbphaa
