/-
  Walk of the layer 'schedule': Core.
-/
import Derived.Test.YtheioedggjbphaaScO
import Derived.Test.YtheioedggjbphaaScR
set_option linter.unusedVariables false
namespace Sc
def anyDue (J : List Jb) (f : Int) : Bool := J.any (fun j => decide (j.due < f))
end Sc
namespace Go.Proofs.Ytheioedggjbphaa
open Go Go.RowKit Sc Sk Go.Sort
theorem core1_any (b : Nat) (f : Int) (j : Jb) (w : World) (h : Box w b 3 [.int .i64 f]) : Calls Try.prog 45 (#[eJ j] ++ #[.pointer (some ⟨b, 0, none⟩)]) w (Ret w (.bool (decide (j.due < f)))) := by
  obtain ⟨x0, x1, x2, x3⟩ := j
  show Calls Try.prog 45 #[.agg #[.int .i64 x0, .int .i64 x1, .int .i64 x2, .int .i64 x3], .pointer (some ⟨b, 0, none⟩)] w (Ret w (.bool (decide (x1 < f))))
  obtain ⟨W0, hW0, HB_W0, hZ, hn⟩ := boxes1 w [.int .i64 x0, .int .i64 x1, .int .i64 x2, .int .i64 x3] 44
  obtain ⟨n_0, n_1, n_2, n_3⟩ := hn.c4
  have e_0 := (h.below HB_W0).c1
  clear hZ hn h
  go_enter Try.func45, Try.ntmps45
  go_wp2_with fail
  go_ret
  exact ⟨rfl, HB_W0⟩
theorem alloc_arr (W : World) : (Instr.alloc 67 true (.tuple #[])).run Try.prog W = .ok (.pointer (some ⟨W.heap.size, 0, none⟩)) (W.alloc (.cells ((List.replicate 400 (0 : Int)).map (Value.int .i64)).toArray 67)) := by kernel_rfl
theorem wpList_alloced {P : Program} {ops : Array Oper} {Q : Exit → Act → World → Prop} {a : Act} {w : World} {rest : List Oper} {o : Oper} (hg : o.guard = none) (t : TypeId) (hop : o.op = .alloc t) (v : Value) {w' : World}
    (hrun : (Instr.alloc t true (.tuple #[])).run P w = .ok v w') (hK : wpList P ops Q rest (a.put o.dst v) w') : wpList P ops Q (o :: rest) a w := by
  refine wpList_plain hg fun K hK' => ?_
  unfold Oper.wp
  simp only [execOp, hop, Sem.run_bind, hrun, Result.andThen, Sem.run_pure, Oper.upon]
  exact hK' _ _ hK
abbrev bgv (l : List Int) : List Value := l.map (Value.int .i64)
theorem over_no {J : List Jb} {f a b : Int} (h : ¬ b - a + 1 < loadP f a b J) : ¬ over J f a b := h
def CoreE (w : World) (J : List Jb) (f : Int) (e : Ending) (w' : World) : Prop := ∃ lo hi er, e = .returned (.tuple #[.agg #[.int .i64 lo, .int .i64 hi], .int .i64 er]) ∧ CoreSp J f lo hi er ∧ Below w.heap.size w w'
set_option maxRecDepth 100000 in
set_option maxHeartbeats 8000000 in
theorem Core_any (jo : Option Addr) (n cap : Nat) (J : List Jb) (f : Int) (w : World) (hj : Sl w 4 cJ jo n cap J) :
    Calls Try.prog 23 #[.slice jo n cap, .int .i64 f] w (CoreE w J f) := by
  obtain rfl := hj.len
  have hcapj := hj.max
  have hlej := hj.le
  unfold maxLen at hcapj
  have HJ := Lib.hid hj
  obtain ⟨W0, hW0, HB_W0, hZ, hf, hr⟩ := boxes2 w [.int .i64 f] [.int .i64 0, .int .i64 0] 3 37
  obtain ⟨R, hR⟩ : ∃ R, w.heap.size = R := ⟨_, rfl⟩
  rw [hR] at hf hr
  have H_f := Lib.hid hf
  have H_r0 := Lib.hid hr
  have HVA := Lib.hid (Valid_any jo J.length cap J W0 (hj.below HB_W0))
  have HSL := Lib.hid (fun W => slot_any f W)
  have HAN := Lib.hid (fun W (hW : Below W0.heap.size W0 W) => jcontains_any jo J.length cap J 45 #[.pointer (some ⟨R, 0, none⟩)] (fun j => decide (j.due < f)) W ((hj.below HB_W0).below hW) (fun W' x hW' _ => core1_any R f x W' ((hf.below hW).below hW')) (fun args w => by kernel_rfl))
  clear hf hr hZ hj
  go_enter Try.func23, Try.ntmps23
  go_wp2_with fail
  cases h1 : validJ J with
  | false =>
    rw [h1] at HVA
    have HSP := Lib.hid (show CoreSp J f 0 0 1 by unfold CoreSp; rw [if_neg (by simp [h1])]; exact ⟨rfl, rfl, rfl⟩)
    clear h1
    refine (HVA.out).mono ?_
    rintro e wa ⟨rfl, hb_wa⟩
    have HB_wa : Below w.heap.size w wa := by first | exact after0 HB_W0 hb_wa | exact after1 HB_W0 hb_wa | exact after2 HB_W0 hb_wa | exact after3 HB_W0 hb_wa | exact after4 HB_W0 hb_wa | exact after5 HB_W0 hb_wa
    clear hW0
    have H_r := Lib.hid (H_r0.out.below hb_wa)
    obtain ⟨r0, r1⟩ := H_r.out.c2
    have fr := H_r.out.frozen
    go_wp2_with fail
    all_goals try (exfalso; omega)
    obtain ⟨s0, s1⟩ := ((H_r.out.set 0 (.int .i64 0)).set 1 (.int .i64 0)).c2
    refine bodyPost_ret (v := .tuple #[.agg #[.int .i64 0, .int .i64 0], .int .i64 1]) (by simp [results, Try.results23, go_sem, s0, s1]) rfl ?_
    have hle1 : w.heap.size ≤ R + 1 := by omega
    exact ⟨0, 0, 1, rfl, HSP.out, ((HB_wa).setCell (p := ⟨R + 1, 0, none⟩) hle1 _).setCell (p := ⟨R + 1, 1, none⟩) hle1 _⟩
  | true =>
  rw [h1] at HVA
  refine (HVA.out).mono ?_
  rintro e wa ⟨rfl, hb_wa⟩
  have HB_wa : Below w.heap.size w wa := by first | exact after0 HB_W0 hb_wa | exact after1 HB_W0 hb_wa | exact after2 HB_W0 hb_wa | exact after3 HB_W0 hb_wa | exact after4 HB_W0 hb_wa | exact after5 HB_W0 hb_wa
  clear hW0
  have H_fa := Lib.hid (H_f.out.below hb_wa)
  have H_ra := Lib.hid (H_r0.out.below hb_wa)
  have e_0 := H_fa.out.c1
  cases h2 : slotB f with
  | false =>
    rw [h2] at HSL
    have HSP := Lib.hid (show CoreSp J f 0 0 1 by unfold CoreSp; rw [if_neg (by simp [h2])]; exact ⟨rfl, rfl, rfl⟩)
    clear h1 h2
    go_wp2_with fail
    all_goals try (exfalso; omega)
    refine (HSL.out _).mono ?_
    rintro e wb ⟨rfl, hb_wb⟩
    have HB_wb : Below w.heap.size w wb := by first | exact after0 HB_wa hb_wb | exact after1 HB_wa hb_wb | exact after2 HB_wa hb_wb | exact after3 HB_wa hb_wb | exact after4 HB_wa hb_wb | exact after5 HB_wa hb_wb
    have H_r := Lib.hid (H_ra.out.below hb_wb)
    clear e_0
    obtain ⟨r0, r1⟩ := H_r.out.c2
    have fr := H_r.out.frozen
    go_wp2_with fail
    all_goals try (exfalso; omega)
    obtain ⟨s0, s1⟩ := ((H_r.out.set 0 (.int .i64 0)).set 1 (.int .i64 0)).c2
    refine bodyPost_ret (v := .tuple #[.agg #[.int .i64 0, .int .i64 0], .int .i64 1]) (by simp [results, Try.results23, go_sem, s0, s1]) rfl ?_
    have hle1 : w.heap.size ≤ R + 1 := by omega
    exact ⟨0, 0, 1, rfl, HSP.out, ((HB_wb).setCell (p := ⟨R + 1, 0, none⟩) hle1 _).setCell (p := ⟨R + 1, 1, none⟩) hle1 _⟩
  | true =>
  rw [h2] at HSL
  have hff : 0 ≤ f ∧ f < 400 := by simpa [slotB] using h2
  go_wp2_with fail
  all_goals try (exfalso; omega)
  refine (HSL.out _).mono ?_
  rintro e wb ⟨rfl, hb_wb⟩
  have HB_wb : Below w.heap.size w wb := by first | exact after0 HB_wa hb_wb | exact after1 HB_wa hb_wb | exact after2 HB_wa hb_wb | exact after3 HB_wa hb_wb | exact after4 HB_wa hb_wb | exact after5 HB_wa hb_wb
  have hb0 := hb_wa.trans (hb_wb.mono hb_wa.size)
  have HA2 := Lib.hid (HAN.out wb hb0)
  cases h3 : J.any (fun j => decide (j.due < f)) with
  | true =>
    rw [h3] at HA2
    have HSP := Lib.hid (show CoreSp J f 0 0 6 by
      unfold CoreSp
      rw [if_pos ⟨h1, h2⟩, if_pos (by simpa using h3)]
      exact ⟨rfl, rfl, rfl⟩)
    clear h1 h2 h3
    go_wp2_with fail
    all_goals try (exfalso; omega)
    refine (HA2.out).mono ?_
    rintro e wc ⟨rfl, hb_wc⟩
    have HB_wc : Below w.heap.size w wc := by first | exact after0 HB_wb hb_wc | exact after1 HB_wb hb_wc | exact after2 HB_wb hb_wc | exact after3 HB_wb hb_wc | exact after4 HB_wb hb_wc | exact after5 HB_wb hb_wc
    have H_r := Lib.hid ((H_ra.out.below hb_wb).below hb_wc)
    clear e_0
    obtain ⟨r0, r1⟩ := H_r.out.c2
    have fr := H_r.out.frozen
    go_wp2_with fail
    all_goals try (exfalso; omega)
    obtain ⟨s0, s1⟩ := ((H_r.out.set 0 (.int .i64 0)).set 1 (.int .i64 0)).c2
    refine bodyPost_ret (v := .tuple #[.agg #[.int .i64 0, .int .i64 0], .int .i64 6]) (by simp [results, Try.results23, go_sem, s0, s1]) rfl ?_
    have hle1 : w.heap.size ≤ R + 1 := by omega
    exact ⟨0, 0, 6, rfl, HSP.out, ((HB_wc).setCell (p := ⟨R + 1, 0, none⟩) hle1 _).setCell (p := ⟨R + 1, 1, none⟩) hle1 _⟩
  | false =>
  rw [h3] at HA2
  have hdue : ∀ j ∈ J, f ≤ j.due := fun j hj => by
    rw [List.any_eq_false] at h3
    have := h3 j hj
    simp at this
    omega
  have HSP := Lib.hid (show ∀ lo hi er, ((er = 0 ∧ f ≤ lo ∧ lo ≤ hi ∧ hi < 400 ∧ over J f lo hi ∧ ∀ a b, f ≤ a → a ≤ b → b < 400 → (b < hi ∨ b = hi ∧ lo < a) → ¬ over J f a b) ∨
          (er = 4 ∧ lo = 0 ∧ hi = 0 ∧ ∀ a b, f ≤ a → a ≤ b → b < 400 → ¬ over J f a b)) → CoreSp J f lo hi er from fun lo hi er h => by
    unfold CoreSp
    rw [if_pos ⟨h1, h2⟩, if_neg (by rintro ⟨j, hj, hlt⟩; have := hdue j hj; omega)]
    exact h)
  have HV := Lib.hid (validJ_iff.1 h1).2
  have hl100 := (validJ_iff.1 h1).1
  have HDU := Lib.hid hdue
  obtain ⟨hf0, hf4⟩ := hff
  clear h1 h2 h3 hdue
  go_wp2_with fail
  all_goals try (exfalso; omega)
  refine (HA2.out).mono ?_
  rintro e wc ⟨rfl, hb_wc⟩
  have HB_wc : Below w.heap.size w wc := by first | exact after0 HB_wb hb_wc | exact after1 HB_wb hb_wc | exact after2 HB_wb hb_wc | exact after3 HB_wb hb_wc | exact after4 HB_wb hb_wc | exact after5 HB_wb hb_wc
  have H_fc := Lib.hid ((H_fa.out.below hb_wb).below hb_wc)
  have H_rc := Lib.hid ((H_ra.out.below hb_wb).below hb_wc)
  clear e_0 H_f H_r0 H_fa H_ra HA2 HAN HSL HVA hb0
  have e_0 := H_fc.out.c1
  go_wp2_with fail
  all_goals try (exfalso; omega)
  clear e_0
  go_loopw [6] (fun bs wr => ∃ b : Int, f ≤ b ∧ b ≤ 400 ∧ bs = .int .i64 b ∧ Below w.heap.size w wr ∧ Hid (Box wr R 3 [.int .i64 f]) ∧ Hid (Box wr (R + 1) 37 [.int .i64 0, .int .i64 0]) ∧ Hid (∀ a b', f ≤ a → a ≤ b' → b' < b → ¬ over J f a b')) (fun bs _ => (400 - intOf bs).toNat)
  case atStart => exact ⟨f, by omega, by omega, rfl, HB_wc, H_fc, H_rc, fun a b' h1 h2 h3 => by omega⟩
  case round =>
    clear H_fc H_rc
    obtain ⟨b, hb1, hb2, rfl, HB_wr, H_f, H_r, HNO⟩ := hrel
    by_cases hb4 : b < 400
    case neg =>
      have HSP2 := Lib.hid (HSP.out 0 0 4 (.inr ⟨rfl, rfl, rfl, fun a b' h1 h2 h3 => HNO.out a b' h1 h2 (by omega)⟩))
      clear HSP
      have HSP := HSP2
      obtain ⟨r0, r1⟩ := H_r.out.c2
      have fr := H_r.out.frozen
      go_wp2_with fail
      all_goals try (exfalso; omega)
      obtain ⟨s0, s1⟩ := ((H_r.out.set 0 (.int .i64 0)).set 1 (.int .i64 0)).c2
      refine bodyPost_ret (v := .tuple #[.agg #[.int .i64 0, .int .i64 0], .int .i64 4]) (by simp [results, Try.results23, go_sem, s0, s1]) rfl ?_
      have hle1 : w.heap.size ≤ R + 1 := by omega
      exact ⟨0, 0, 4, rfl, HSP.out, ((HB_wr).setCell (p := ⟨R + 1, 0, none⟩) hle1 _).setCell (p := ⟨R + 1, 1, none⟩) hle1 _⟩
    obtain ⟨N, hN⟩ : ∃ N, wr.heap.size = N := ⟨_, rfl⟩
    obtain ⟨W1, hW1, hB1, hZ1, hbn⟩ := boxes1 wr (bgv (List.replicate 400 0)) 67
    rw [hN] at hbn
    have H_g := Lib.hid hbn
    have HB_W1 : Below w.heap.size w W1 := after0 HB_wr hB1
    have H_f1 := Lib.hid (H_f.out.below hB1)
    have H_r1 := Lib.hid (H_r.out.below hB1)
    have hRN : R + 1 < N := by rw [← hN]; exact H_r.out.lt
    clear hbn hB1 hZ1 H_f H_r
    have hal : (Instr.alloc 67 true (.tuple #[])).run Try.prog wr = .ok (.pointer (some ⟨N, 0, none⟩)) W1 := (alloc_arr wr).trans (by rw [hN, hW1])
    clear hW1 hN
    go_wp2_with (refine wpList_alloced rfl 67 rfl _ hal ?_)
    clear hal
    have HB0 := Lib.hid (show Box W1 N 67 (bgv (bg f b (J.take 0))) by rw [List.take_zero, bg_nil]; exact H_g.out)
    go_loopw [32] (fun i wr => ∃ k : Nat, k ≤ J.length ∧ i = .int .i64 k ∧ Below w.heap.size w wr ∧ Hid (Box wr R 3 [.int .i64 f]) ∧ Hid (Box wr (R + 1) 37 [.int .i64 0, .int .i64 0]) ∧ Hid (Box wr N 67 (bgv (bg f b (J.take k))))) (fun i _ => J.length - (intOf i).toNat)
    case atStart => exact ⟨0, Nat.zero_le _, rfl, HB_W1, H_f1, H_r1, HB0⟩
    case round =>
      clear H_g H_f1 H_r1 HB0 HB_W1
      obtain ⟨k, hk, rfl, HB_wr, H_f, H_r, H_g⟩ := hrel
      by_cases hlt : k < J.length
      · obtain ⟨bj, off, rfl, hb, hrow⟩ := HJ.out.get hlt
        obtain ⟨e_0, e_1, e_2, e_3⟩ := ((hrow k hlt).below HB_wr hb).c4
        have hjv := jobB_iff.1 (HV.out _ (List.getElem_mem hlt))
        have hjd := HDU.out _ (List.getElem_mem hlt)
        have HY := Lib.hid (fun hd m hm hm4 => @bg_yes f b J k m hlt hd hm hm4)
        have HN := Lib.hid (fun hd => @bg_no f b J k hlt hd)
        have HCB := Lib.hid (fun a => cnt_bound (f := f) (b := b) (a := a) (l := J.take k) (fun j hj => HV.out j (List.mem_of_mem_take hj)))
        clear hrow
        generalize J[k] = y at *
        obtain ⟨y0, y1, y2, y3⟩ := y
        dsimp only at e_0 e_1 e_2 e_3 hjv hjd HY HN
        obtain ⟨P, hP⟩ : ∃ P, wr.heap.size = P := ⟨_, rfl⟩
        obtain ⟨W2, hW2, hB2, hZ2, hb2'⟩ := boxes1 wr [.int .i64 y0, .int .i64 y1, .int .i64 y2, .int .i64 y3] 44
        rw [hP] at hb2'
        have HB_W2 : Below w.heap.size w W2 := after0 HB_wr hB2
        have H_f2 := Lib.hid (H_f.out.below hB2)
        have H_r2 := Lib.hid (H_r.out.below hB2)
        have H_g2 := Lib.hid (H_g.out.below hB2)
        have H_x := Lib.hid hb2'
        have hNP : N < P := by rw [← hP]; exact H_g.out.lt
        obtain ⟨f_0, f_1, f_2, f_3⟩ := hb2'.c4
        clear hB2 hZ2 hb2' H_f H_r H_g
        by_cases hd : y1 ≤ b
        case neg =>
          have HBG := Lib.hid (HN.out hd)
          replace hd := Int.not_le.1 hd
          clear HY HN
          go_wp2_with fail
          all_goals try (exfalso; omega)
          go_roundw
          case rel => exact ⟨k + 1, hlt, by go_num, HB_W2, H_f2, H_r2, by rw [HBG.out]; exact H_g2.out⟩
          case measure => simp [intOf] <;> omega
        go_wp2_with fail
        clear hW2 hP f_0 f_1 f_2 f_3 e_0 e_1 e_2 e_3
        obtain ⟨m, hm⟩ : ∃ m : Nat, max y0 f = m := ⟨(max y0 f).toNat, by omega⟩
        have hm4 : m < 400 := by omega
        have HBG := Lib.hid (HY.out hd m hm hm4)
        have hcb := HCB.out m
        have hkl : (J.take k).length ≤ 100 := by rw [List.length_take]; omega
        obtain ⟨cv, hcv⟩ : ∃ cv, cnt f b (J.take k) m = cv := ⟨_, rfl⟩
        have HCV := Lib.hid hcv
        rw [hcv] at hcb HBG
        obtain ⟨V, hV⟩ : ∃ V, W2.drew = V := ⟨_, rfl⟩
        have hdr : Below W2.heap.size W2 V := hV ▸ (Below.refl _ _).drew
        have H_gV := Lib.hid (H_g2.out.below hdr)
        have H_xV := Lib.hid (H_x.out.below hdr)
        have H_fV := Lib.hid (H_f2.out.below hdr)
        have H_rV := Lib.hid (H_r2.out.below hdr)
        have HB_V : Below w.heap.size w V := after0 HB_W2 hdr
        have g_0 := H_gV.out.cell (j := m) (v := .int .i64 cv) (by unfold bgv; rw [List.getElem?_map, bg_get hm4, hcv]; rfl)
        have g_f := H_gV.out.frozen
        obtain ⟨V2, hV2⟩ : ∃ V2, V.setCell ⟨N, m, none⟩ (.int .i64 (cv + y2)) = V2 := ⟨_, rfl⟩
        have H_g2 : Hid (Box V2 N 67 (bgv ((bg f b (J.take k)).set m (cv + y2)))) := by
          rw [← hV2, show bgv ((bg f b (J.take k)).set m (cv + y2)) = (bgv (bg f b (J.take k))).set m (.int .i64 (cv + y2)) by unfold bgv; rw [List.map_set]]
          exact H_gV.out.set m _
        have H_f2 : Hid (Box V2 R 3 [.int .i64 f]) := hV2 ▸ H_fV.out.other (by omega)
        have H_r2 : Hid (Box V2 (R + 1) 37 [.int .i64 0, .int .i64 0]) := hV2 ▸ H_rV.out.other (by omega)
        have H_x2 : Box V2 P 44 [.int .i64 y0, .int .i64 y1, .int .i64 y2, .int .i64 y3] := hV2 ▸ H_xV.out.other (by omega)
        have HB_V2 : Below w.heap.size w V2 := hV2 ▸ HB_V.setCell (p := ⟨N, m, none⟩) (show w.heap.size ≤ N by omega) _
        have c_0 := Lib.hid (show V.cell? ⟨P, 0, none⟩ = some (.int .i64 y0) ∧ V.cell? ⟨P, 2, none⟩ = some (.int .i64 y2) ∧ V.cell? ⟨R, 0, none⟩ = some (.int .i64 f) from ⟨H_xV.out.c4.1, H_xV.out.c4.2.2.1, H_fV.out.c1⟩)
        have c_2 := Lib.hid (show V2.cell? ⟨P, 0, none⟩ = some (.int .i64 y0) ∧ V2.cell? ⟨P, 2, none⟩ = some (.int .i64 y2) ∧ V2.cell? ⟨R, 0, none⟩ = some (.int .i64 f) from ⟨H_x2.c4.1, H_x2.c4.2.2.1, H_f2.out.c1⟩)
        clear hdr H_gV H_xV H_fV H_rV H_x2 hcv HY HN H_x
        have hmi : (m : Int) < 400 := by omega
        rcases Int.lt_or_le y0 f with hmx | hmx
        · have hm2 : f = (m : Int) := by omega
          clear hm
          subst hm2
          have y_1 : ∀ q : Wc (fun W => W.cell? ⟨P, 0, none⟩ = some (.int .i64 y0) ∧ W.cell? ⟨P, 2, none⟩ = some (.int .i64 y2) ∧ W.cell? ⟨R, 0, none⟩ = some (.int .i64 (m : Int))), q.w.cell? ⟨P, 0, none⟩ = some (.int .i64 y0) := fun q => q.h.1
          have y_2 : ∀ q : Wc (fun W => W.cell? ⟨P, 0, none⟩ = some (.int .i64 y0) ∧ W.cell? ⟨P, 2, none⟩ = some (.int .i64 y2) ∧ W.cell? ⟨R, 0, none⟩ = some (.int .i64 (m : Int))), q.w.cell? ⟨P, 2, none⟩ = some (.int .i64 y2) := fun q => q.h.2.1
          have y_3 : ∀ q : Wc (fun W => W.cell? ⟨P, 0, none⟩ = some (.int .i64 y0) ∧ W.cell? ⟨P, 2, none⟩ = some (.int .i64 y2) ∧ W.cell? ⟨R, 0, none⟩ = some (.int .i64 (m : Int))), q.w.cell? ⟨R, 0, none⟩ = some (.int .i64 (m : Int)) := fun q => q.h.2.2
          have y_n : Nonempty (Wc (fun W => W.cell? ⟨P, 0, none⟩ = some (.int .i64 y0) ∧ W.cell? ⟨P, 2, none⟩ = some (.int .i64 y2) ∧ W.cell? ⟨R, 0, none⟩ = some (.int .i64 (m : Int)))) := ⟨⟨V, c_0.out⟩⟩
          refine wp_region_plan (C := fun w' => ∃ p : Wc (fun W => W.cell? ⟨P, 0, none⟩ = some (.int .i64 y0) ∧ W.cell? ⟨P, 2, none⟩ = some (.int .i64 y2) ∧ W.cell? ⟨R, 0, none⟩ = some (.int .i64 (m : Int))), w' = p.w) (.q 0 (.q 1 (.q 2 (.q 3 (.q 4 (.q 6 (.q 7 (.e 5 (.q 8 (.q 9 (.e 10 (.done)))))))))))) 11 (by kernel_rfl) (by kernel_rfl) ⟨⟨_, ?_⟩, rfl⟩ ?_
          · exact (hV ▸ c_0.out : _)
          repeat (any_goals (first | (go_big_quiet_skip; refine wpQuiet_nil ?_) | (go_big_quiet_want; go_big_quiet_op; go_big_quiet_on; refine wpQuiet_nil ?_) | ((with_reducible apply q_split); exact rfl; intro q hq; cases q <;> (rw [hq]; (try first | replace hq := bnot_t hq | replace hq := bnot_f hq); (try first | replace hq := of_decide_eq_true hq | replace hq := of_decide_eq_false hq | replace hq := eq_of_beq hq); (try first | replace hq := Int.not_lt.1 hq | replace hq := Int.not_le.1 hq | replace hq := Nat.not_lt.1 hq | replace hq := Nat.not_le.1 hq); try (exfalso; omega))) | (refine plan_q rfl rfl ?_)))
          rw [show ({ heap := W2.heap, tape := W2.tape, drawn := W2.drawn + 1, os := W2.os, output := W2.output } : World) = V from hV]
          refine plan_e rfl ?_
          go_wp2_with fail
          refine MixPost.intro ⟨⟨_, c_0.out⟩, rfl⟩ ?_
          repeat (any_goals (first | (go_big_quiet_skip; refine wpQuiet_nil ?_) | (go_big_quiet_want; go_big_quiet_op; go_big_quiet_on; refine wpQuiet_nil ?_) | ((with_reducible apply q_split); exact rfl; intro q hq; cases q <;> (rw [hq]; (try first | replace hq := bnot_t hq | replace hq := bnot_f hq); (try first | replace hq := of_decide_eq_true hq | replace hq := of_decide_eq_false hq | replace hq := eq_of_beq hq); (try first | replace hq := Int.not_lt.1 hq | replace hq := Int.not_le.1 hq | replace hq := Nat.not_lt.1 hq | replace hq := Nat.not_le.1 hq); try (exfalso; omega))) | (refine plan_q rfl rfl ?_)))
          refine plan_e rfl ?_
          go_wp2_with fail
          refine MixPost.intro ⟨⟨_, c_2.out⟩, rfl⟩ ?_
          clear y_1 y_2 y_3 y_n g_0 g_f hV hV2 c_0 c_2 hmx
          refine plan_done ?_
          try simp only [List.drop_succ_cons, List.drop_zero]
          go_wp2_with fail
          refine NoPanic.normal ?_
          go_wp2_with fail
          go_roundw
          case rel => exact ⟨k + 1, hlt, by go_num, HB_V2, H_f2, H_r2, by rw [HBG.out]; exact H_g2.out⟩
          case measure => simp [intOf] <;> omega
        · have hm2 : y0 = (m : Int) := by omega
          clear hm
          subst hm2
          have y_1 : ∀ q : Wc (fun W => W.cell? ⟨P, 0, none⟩ = some (.int .i64 (m : Int)) ∧ W.cell? ⟨P, 2, none⟩ = some (.int .i64 y2) ∧ W.cell? ⟨R, 0, none⟩ = some (.int .i64 f)), q.w.cell? ⟨P, 0, none⟩ = some (.int .i64 (m : Int)) := fun q => q.h.1
          have y_2 : ∀ q : Wc (fun W => W.cell? ⟨P, 0, none⟩ = some (.int .i64 (m : Int)) ∧ W.cell? ⟨P, 2, none⟩ = some (.int .i64 y2) ∧ W.cell? ⟨R, 0, none⟩ = some (.int .i64 f)), q.w.cell? ⟨P, 2, none⟩ = some (.int .i64 y2) := fun q => q.h.2.1
          have y_3 : ∀ q : Wc (fun W => W.cell? ⟨P, 0, none⟩ = some (.int .i64 (m : Int)) ∧ W.cell? ⟨P, 2, none⟩ = some (.int .i64 y2) ∧ W.cell? ⟨R, 0, none⟩ = some (.int .i64 f)), q.w.cell? ⟨R, 0, none⟩ = some (.int .i64 f) := fun q => q.h.2.2
          have y_n : Nonempty (Wc (fun W => W.cell? ⟨P, 0, none⟩ = some (.int .i64 (m : Int)) ∧ W.cell? ⟨P, 2, none⟩ = some (.int .i64 y2) ∧ W.cell? ⟨R, 0, none⟩ = some (.int .i64 f))) := ⟨⟨V, c_0.out⟩⟩
          refine wp_region_plan (C := fun w' => ∃ p : Wc (fun W => W.cell? ⟨P, 0, none⟩ = some (.int .i64 (m : Int)) ∧ W.cell? ⟨P, 2, none⟩ = some (.int .i64 y2) ∧ W.cell? ⟨R, 0, none⟩ = some (.int .i64 f)), w' = p.w) (.q 0 (.q 1 (.q 2 (.q 3 (.q 4 (.q 6 (.q 7 (.e 5 (.q 8 (.q 9 (.e 10 (.done)))))))))))) 11 (by kernel_rfl) (by kernel_rfl) ⟨⟨_, ?_⟩, rfl⟩ ?_
          · exact (hV ▸ c_0.out : _)
          repeat (any_goals (first | (go_big_quiet_skip; refine wpQuiet_nil ?_) | (go_big_quiet_want; go_big_quiet_op; go_big_quiet_on; refine wpQuiet_nil ?_) | ((with_reducible apply q_split); exact rfl; intro q hq; cases q <;> (rw [hq]; (try first | replace hq := bnot_t hq | replace hq := bnot_f hq); (try first | replace hq := of_decide_eq_true hq | replace hq := of_decide_eq_false hq | replace hq := eq_of_beq hq); (try first | replace hq := Int.not_lt.1 hq | replace hq := Int.not_le.1 hq | replace hq := Nat.not_lt.1 hq | replace hq := Nat.not_le.1 hq); try (exfalso; omega))) | (refine plan_q rfl rfl ?_)))
          rw [show ({ heap := W2.heap, tape := W2.tape, drawn := W2.drawn + 1, os := W2.os, output := W2.output } : World) = V from hV]
          refine plan_e rfl ?_
          go_wp2_with fail
          refine MixPost.intro ⟨⟨_, c_0.out⟩, rfl⟩ ?_
          repeat (any_goals (first | (go_big_quiet_skip; refine wpQuiet_nil ?_) | (go_big_quiet_want; go_big_quiet_op; go_big_quiet_on; refine wpQuiet_nil ?_) | ((with_reducible apply q_split); exact rfl; intro q hq; cases q <;> (rw [hq]; (try first | replace hq := bnot_t hq | replace hq := bnot_f hq); (try first | replace hq := of_decide_eq_true hq | replace hq := of_decide_eq_false hq | replace hq := eq_of_beq hq); (try first | replace hq := Int.not_lt.1 hq | replace hq := Int.not_le.1 hq | replace hq := Nat.not_lt.1 hq | replace hq := Nat.not_le.1 hq); try (exfalso; omega))) | (refine plan_q rfl rfl ?_)))
          refine plan_e rfl ?_
          go_wp2_with fail
          refine MixPost.intro ⟨⟨_, c_2.out⟩, rfl⟩ ?_
          clear y_1 y_2 y_3 y_n g_0 g_f hV hV2 c_0 c_2 hmx
          refine plan_done ?_
          try simp only [List.drop_succ_cons, List.drop_zero]
          go_wp2_with fail
          refine NoPanic.normal ?_
          go_wp2_with fail
          go_roundw
          case rel => exact ⟨k + 1, hlt, by go_num, HB_V2, H_f2, H_r2, by rw [HBG.out]; exact H_g2.out⟩
          case measure => simp [intOf] <;> omega
      · obtain rfl : k = J.length := by omega
        rw [List.take_length] at H_g
        have r_f := H_f.out.c1
        have HLZ := Lib.hid (load_zero (b := b) HV.out HDU.out)
        have HLS := Lib.hid (fun a => load_step f a b J)
        have HLB := Lib.hid (fun a => load_bound (f := f) (a := a) (b := b) HV.out)
        clear hk hlt
        go_wp2_with fail
        go_loopw [10, 11] (fun lo a wr2 => ∃ (x : Int), f - 1 ≤ x ∧ x ≤ b ∧ a = .int .i64 x ∧ lo = .int .i64 (loadP f (x + 1) b J) ∧ wr2 = wr ∧ Hid (∀ a', x < a' → a' ≤ b → ¬ over J f a' b)) (fun _ a _ => (intOf a - f + 1).toNat)
        case atStart => exact ⟨b, by omega, by omega, rfl, by rw [HLZ.out], rfl, fun a' h1 h2 => by omega⟩
        case round =>
          obtain ⟨x, hx1, hx2, rfl, rfl, rfl, HOV⟩ := hrel
          by_cases hxf : f ≤ x
          case neg =>
            have HN2 := Lib.hid (show ∀ a b', f ≤ a → a ≤ b' → b' < b + 1 → ¬ over J f a b' from fun a b' h1 h2 h3 => by
              by_cases e : b' = b
              · subst e; exact HOV.out a (by omega) h2
              · exact HNO.out a b' h1 h2 (by omega))
            clear HLZ HLS
            generalize loadP f (x + 1) b J = ld at *
            replace hxf := Int.not_le.1 hxf
            go_wp2_with fail
            all_goals try (exfalso; omega)
            go_roundw
            case rel => exact ⟨b + 1, by omega, by omega, by go_num, HB_wr, H_f, H_r, HN2⟩
            case measure => simp [intOf] <;> omega
          obtain ⟨m, rfl⟩ : ∃ m : Nat, x = m := ⟨x.toNat, by omega⟩
          have hm4 : m < 400 := by omega
          have g_0 := H_g.out.cell (j := m) (v := .int .i64 (cnt f b J m)) (by unfold bgv; rw [List.getElem?_map, bg_get hm4]; rfl)
          have hls := HLS.out m
          have hb1' := HLB.out m
          have hb2' := HLB.out ((m : Int) + 1)
          have HOVV := Lib.hid (fun h => @over_no J f m b h)
          have HOVY := Lib.hid (show b - (m : Int) + 1 < loadP f m b J → over J f m b from id)
          have hmi : (m : Int) < 400 := by omega
          have HLX := Lib.hid (show loadP f ((m : Int) - 1 + 1) b J = loadP f m b J by rw [show (m : Int) - 1 + 1 = m by omega])
          generalize loadP f ((m : Int) + 1) b J = l1 at *
          generalize hl0 : loadP f (m : Int) b J = l0 at *
          generalize cnt f b J (m : Int) = cv at *
          have hlc : l1 + cv = l0 := by omega
          clear hls hl0 HLZ HLS HLB
          by_cases hov : b - (m : Int) + 1 < l0
          · have HSP2 := Lib.hid (HSP.out m b 0 (.inl ⟨rfl, hxf, hx2, hb4, HOVY.out hov, fun a b' h1 h2 h3 h4 => by
              rcases h4 with h4 | ⟨rfl, h4⟩
              · exact HNO.out a b' h1 h2 h4
              · exact HOV.out a h4 h2⟩))
            clear HSP HOVY HOVV
            obtain ⟨r0, r1⟩ := H_r.out.c2
            have fr := H_r.out.frozen
            go_wp2_with fail
            all_goals try (exfalso; omega)
            obtain ⟨s0, s1⟩ := ((H_r.out.set 0 (.int .i64 (m : Int))).set 1 (.int .i64 b)).c2
            refine bodyPost_ret (v := .tuple #[.agg #[.int .i64 (m : Int), .int .i64 b], .int .i64 0]) (by simp [results, Try.results23, go_sem, s0, s1]) rfl ?_
            have hle1 : w.heap.size ≤ R + 1 := by omega
            exact ⟨m, b, 0, rfl, HSP2.out, (HB_wr.setCell (p := ⟨R + 1, 0, none⟩) hle1 _).setCell (p := ⟨R + 1, 1, none⟩) hle1 _⟩
          · have HOV2 := Lib.hid (show ∀ a', (m : Int) - 1 < a' → a' ≤ b → ¬ over J f a' b from fun a' h1 h2 => by
              by_cases e : a' = (m : Int)
              · subst e; exact HOVV.out hov
              · exact HOV.out a' (by omega) h2)
            replace hov := Int.not_lt.1 hov
            clear HOVY HOVV HOV
            go_wp2_with fail
            all_goals try (exfalso; omega)
            go_roundw
            case rel => exact ⟨(m : Int) - 1, by omega, by omega, by go_num, by rw [HLX.out], by first | rfl | trivial, HOV2⟩
            case measure => simp [intOf] <;> omega
end Go.Proofs.Ytheioedggjbphaa
