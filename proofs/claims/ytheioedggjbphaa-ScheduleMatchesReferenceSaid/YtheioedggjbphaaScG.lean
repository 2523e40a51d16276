/-
  Walk of the layer 'schedule': the plan.
-/
import Derived.Test.YtheioedggjbphaaScF
import Derived.Test.YtheioedggjbphaaScP
import Derived.OwnWalk
set_option linter.unusedVariables false
namespace Go.Proofs.Ytheioedggjbphaa
open Go Go.RowKit Sc Sk Go.Sort
theorem info_sent : (Try.prog.info? 46).map (fun i => (i.zero, i.size, i.bytes)) = some (some (.agg #[.int .i64 0, .int .i64 0, .int .i64 0]), 3, 24) := by kernel_rfl
abbrev vS (S n : Nat) : Value := .slice (some ⟨S, 0, none⟩) n n
/-- what the plan holds: the queue, what is sent of each job, what is sent -/
structure PI (w0 wr : World) (R S : Nat) (a : Value) (J : List Jb) (c : List Nat) (out : List Sn) (v vo : Value) (q : List Nat) : Prop where
  hq : HQ wr R (R + 1) a v q
  heap : Heap (le J) q q.length
  sent : OwnL wr (R + 1) 3 1 cN (vS S J.length) c
  outs : OwnL wr (R + 1) 46 3 cS vo out
  a1 : Apart (vS S J.length) v
  a2 : Apart vo v
  a3 : Apart vo (vS S J.length)
  low : Below R w0 wr
  size : R + 2 ≤ wr.heap.size
section
variable {w0 wr w' : World} {R S : Nat} {a : Value} {J : List Jb} {c : List Nat} {out : List Sn} {v v' vo : Value} {q q' : List Nat}
theorem PI.below (h : PI w0 wr R S a J c out v vo q) (hb : Below wr.heap.size wr w') : PI w0 w' R S a J c out v vo q :=
  ⟨h.hq.below hb, h.heap, h.sent.below hb, h.outs.below hb, h.a1, h.a2, h.a3, h.low.trans (hb.mono (by have := h.size; omega)), Nat.le_trans h.size hb.size⟩
theorem PI.hk (h : PI w0 wr R S a J c out v vo q) (hh : HQ w' R (R + 1) a v' q') (hk : HK wr w' R v v') (hf : Heap (le J) q' q'.length) : PI w0 w' R S a J c out v' vo q' :=
  ⟨hh, hf, hk.own h.sent (by omega) h.a1, hk.own h.outs (by omega) h.a2, hk.apart h.sent h.a1, hk.apart h.outs h.a2, h.a3, h.low.trans hk.low, Nat.le_trans h.size hk.size⟩
end
/-- how long the queue is, read off the world -/
def qlen (w : World) (B : Nat) : Nat := match w.cell? ⟨B, 1, none⟩ with | some (.slice _ n _) => n | _ => 0
theorem HQ.qlen {w : World} {B base : Nat} {a v : Value} {q : List Nat} (h : HQ w B base a v q) : qlen w B = q.length := by
  obtain ⟨o, c, e, _⟩ := h.own.sl cN_len
  subst e
  unfold Go.Proofs.Ytheioedggjbphaa.qlen
  rw [h.box.c2.2]
theorem made_one (u : Value) (n : Nat) : (madeCells #[u] n).toList = List.replicate n u := by
  apply List.ext_getElem
  · simp [madeCells]
  · intro i h1 h2
    simp [madeCells, Nat.mod_one]
theorem flat_repl : ∀ n : Nat, (List.replicate n 0).flatMap cN = List.replicate n (Value.int .i64 0)
  | 0 => rfl
  | n + 1 => by rw [List.replicate_succ, List.flatMap_cons, flat_repl n]; rfl

set_option maxRecDepth 100000 in
set_option maxHeartbeats 8000000 in
theorem plan_any (jo : Option Addr) (n cap : Nat) (J : List Jb) (from_ : Int) (w : World) (hs : Sl w 4 cJ jo n cap J) (hv : validJ J = true) (hf : slotB from_ = true) :
    Calls Try.prog 37 #[.slice jo n cap, .int .i64 from_] w (fun e w' => ∃ v, e = .returned v ∧ OwnL w' w.heap.size 46 3 cS v (planF J from_) ∧ Below w.heap.size w w') := by
  obtain rfl := hs.len
  have hcap := hs.max
  have hle := hs.le
  unfold maxLen at hcap
  have HS := Lib.hid hs
  have HV := Lib.hid (validJ_iff.1 hv).2
  have hl100 := (validJ_iff.1 hv).1
  have hff : 0 ≤ from_ ∧ from_ < 400 := by simpa [slotB] using hf
  obtain ⟨i0, hi, hz0, hz1, hz2⟩ := info_parts info_int
  obtain ⟨i1, hj, hy0, hy1, hy2⟩ := info_parts info_sent
  have HI := Lib.hid hi
  have HZ0 := Lib.hid hz0
  have HZ1 := Lib.hid hz1
  have HZ2 := Lib.hid hz2
  have HJ := Lib.hid hj
  have HY0 := Lib.hid hy0
  have HY1 := Lib.hid hy1
  have HY2 := Lib.hid hy2
  clear hi hz0 hz1 hz2 hj hy0 hy1 hy2 hs hv hf
  obtain ⟨hf0, hf4⟩ := hff
  obtain ⟨R, hR⟩ : ∃ R, w.heap.size = R := ⟨_, rfl⟩
  obtain ⟨W0, hW0, HB_W0, hZ, hb⟩ := boxes1 w [.slice jo J.length cap, .slice none 0 0] 79
  rw [hR] at hb hZ
  have HJS := Lib.hid (fun W (hW : Below R w W) => HS.out.below (show Below w.heap.size w W by rw [hR]; exact hW))
  have hl1 := fun x w => m_push R x w
  have hl2 := fun w => m_len R w
  have hl3 := fun w => m_first R w
  have HHQ := Lib.hid (show HQ W0 R (R + 1) (.slice jo J.length cap) (.slice none 0 0) [] from ⟨hb, OwnL.nil⟩)
  have HZW := Lib.hid hZ
  clear hb hZ
  go_enter Try.func37, Try.ntmps37
  go_wp2_with (refine wpList_make_full _ rfl _ _ 30 rfl (R + 1) 3 i0 (.int .i64 0) 1 Try.underlying30 HI.out HZ0.out HZ1.out .i64 .i64 _ _ J.length rfl rfl rfl rfl (by rw [HZ2.out]; omega) (by unfold maxLen; omega) (by rw [HZW.out]; exact Nat.le_refl _) ?_; intro W1 ho1 hg1)
  rw [HZW.out] at ho1 ⊢
  have hB1 := below_grown (OwnL.nil (w := W0) (base := R + 1) (e := 3) (size := 1) (enc := cN)) (Nat.le_refl _) (by rw [HZW.out]; exact Nat.le_refl _) hg1
  rw [← HZW.out] at hB1
  have hsz1 : R + 2 ≤ W1.heap.size := by have := (World.ownsRow.lt ho1 (R + 1) rfl).2; omega
  have hsn : OwnL W1 (R + 1) 3 1 cN (vS (R + 1) J.length) (List.replicate J.length 0) := by
    unfold OwnL
    rw [flat_repl, List.length_replicate]
    rw [show (Value.int .i64 0).cells = #[Value.int .i64 0] from rfl, made_one, Nat.mul_one] at ho1
    exact ho1
  have HP0 := Lib.hid (show PI w W1 R (R + 1) (.slice jo J.length cap) J (List.replicate J.length 0) [] (.slice none 0 0) (.slice none 0 0) [] from
    ⟨HHQ.out.below hB1, fun k _ hk => absurd hk (Nat.not_lt_zero _), hsn, OwnL.nil, fun g _ h => by (simp [Value.ownBlock] at h), apart_nil _, apart_nil _, by rw [← hR]; exact after0 HB_W0 hB1, hsz1⟩)
  clear hW0 HB_W0 HHQ HZW ho1 hg1 hB1 hsn hsz1
  go_loopw [7, 8] (fun vo t wr => ∃ (k : Nat) (v : Value) (q : List Nat), from_ + k ≤ 400 ∧ t = .int .i64 (from_ + k) ∧ Hid (PI w wr R (R + 1) (.slice jo J.length cap) J (planS J from_ k).1 (planS J from_ k).2 v vo q) ∧ Hid (QI J (fun x => rdy J from_ x < from_ + k) (from_ + k) (planS J from_ k).1 q)) (fun _ t _ => (400 - intOf t).toNat)
  case atStart => exact ⟨0, .slice none 0 0, [], by omega, by go_num, HP0, by rw [show from_ + ((0 : Nat) : Int) = from_ by omega]; exact QI.nil J from_ _⟩
  case round =>
    clear HP0
    obtain ⟨k, v, q, hk, rfl, HPI, HQI⟩ := hrel
    have HCI := Lib.hid (planS_ci HV.out from_ k)
    have HST := Lib.hid (show planS J from_ (k + 1) = pstep J from_ (planS J from_ k) (from_ + k) from rfl)
    have hol := planS_len J from_ k
    by_cases hlt : from_ + (k : Int) < 400
    case neg =>
      have hpf : (planS J from_ k).2 = planF J from_ := by unfold planF; rw [show (400 - from_).toNat = k by omega]
      rw [hpf] at HPI
      clear HQI HCI HST
      generalize from_ + (k : Int) = t at *
      go_wp2_with fail
      go_ret
      exact ⟨_, rfl, HPI.out.outs.mono (by omega), by first | exact HPI.out.low | (rw [hR]; exact HPI.out.low)⟩
    generalize planS J from_ k = s at *
    generalize hT : from_ + (k : Int) = t at *
    have HT := Lib.hid hT
    have ht0 : from_ ≤ t := by omega
    have hkn : k < 400 := by omega
    clear hT
    go_wp2_with fail
    have HB0 := Lib.hid (show Below R w wr from HPI.out.low)
    go_loopw [26] (fun i wr => ∃ (i' : Nat) (v : Value) (q : List Nat), i' ≤ J.length ∧ i = .int .i64 i' ∧ Hid (PI w wr R (R + 1) (.slice jo J.length cap) J s.1 s.2 v u7 q) ∧ Hid (QI J (fun x => rdy J from_ x < t ∨ rdy J from_ x = t ∧ x < i') t s.1 q)) (fun i _ => J.length - (intOf i).toNat)
    case atStart => exact ⟨0, v, q, Nat.zero_le _, rfl, HPI, HQI.out.same (fun y _ => by omega)⟩
    case round =>
      clear HPI HQI HB0
      obtain ⟨i, v, q, hi, rfl, HPI, HQI⟩ := hrel
      by_cases hil : i < J.length
      · obtain ⟨bj, offj, rfl, hbj, hrow⟩ := (HJS.out wr HPI.out.low).get hil
        obtain ⟨e_0, e_1, e_2, e_3⟩ := (hrow i hil).c4
        have hrd : rdy J from_ i = max J[i].ready from_ := by unfold rdy; rw [jat_get hil]
        clear hrow
        generalize J[i] = x at *
        obtain ⟨x0, x1, x2, x3⟩ := x
        dsimp only at e_0 e_1 e_2 e_3 hrd
        obtain ⟨P, hP⟩ : ∃ P, wr.heap.size = P := ⟨_, rfl⟩
        obtain ⟨W2, hW2, hB2, hZ2, hb2⟩ := boxes1 wr [.int .i64 x0, .int .i64 x1, .int .i64 x2, .int .i64 x3] 44
        rw [hP] at hb2
        obtain ⟨f_0, f_1, f_2, f_3⟩ := hb2.c4
        have HP2 := Lib.hid (HPI.out.below hB2)
        have HPU := Lib.hid (hpush_any R (R + 1) _ _ cap J v q i W2 HP2.out.hq (Nat.lt_succ_self R) (by have := HP2.out.size; omega) (fun W hW => HJS.out W (HP2.out.low.trans hW)) (fun y hy => (HQI.out.mem y hy).1) hil (by have := HQI.out.len; omega) HP2.out.heap)
        clear HPI hB2 hZ2 hb2
        rcases Int.lt_or_le x0 from_ with hmx | hmx
        · have hrd2 : rdy J from_ i = from_ := by omega
          by_cases hrt : from_ = t
          · have hbt : (from_ == t) = true := by simpa using hrt
            have HQN := Lib.hid (fun q' hp => HQI.out.push (A' := fun x => rdy J from_ x < t ∨ rdy J from_ x = t ∧ x < i + 1) (q' := q') (x := i) hp hil (by omega) (fun y => by
              constructor
              · intro h
                by_cases e : y = i
                · exact .inr e
                · exact .inl (by omega)
              · rintro (h | rfl)
                · omega
                · omega))
            clear hrt hrd hrd2
            go_wp2_with fail
            clear hbt hmx hW2 e_0 e_1 e_2 e_3 f_0 f_1 f_2 f_3
            refine HPU.out.mono ?_
            rintro e w3 ⟨rfl, v3, q3, hh3, hk3, hf3, hp3⟩
            have HP3 := Lib.hid (HP2.out.hk hh3 hk3 hf3)
            have HQ3 := Lib.hid (HQN.out q3 hp3)
            clear hh3 hk3 hf3 hp3 HPU HQN HP2
            go_wp2_with fail
            go_roundw
            case rel => exact ⟨i + 1, v3, q3, hil, by go_num, HP3, HQ3⟩
            case measure => simp [intOf] <;> omega
          · have hbt : (from_ == t) = false := by simpa using hrt
            have HQ3 := Lib.hid (HQI.out.same (A' := fun x => rdy J from_ x < t ∨ rdy J from_ x = t ∧ x < i + 1) (fun y _ => by
              constructor
              · intro h
                by_cases e : y = i
                · subst e; omega
                · omega
              · intro h; omega))
            clear hrt hrd hrd2 HPU
            go_wp2_with fail
            go_roundw
            case rel => exact ⟨i + 1, v, q, hil, by go_num, HP2, HQ3⟩
            case measure => simp [intOf] <;> omega
        · have hrd2 : rdy J from_ i = x0 := by omega
          by_cases hrt : x0 = t
          · have hbt : (x0 == t) = true := by simpa using hrt
            have HQN := Lib.hid (fun q' hp => HQI.out.push (A' := fun x => rdy J from_ x < t ∨ rdy J from_ x = t ∧ x < i + 1) (q' := q') (x := i) hp hil (by omega) (fun y => by
              constructor
              · intro h
                by_cases e : y = i
                · exact .inr e
                · exact .inl (by omega)
              · rintro (h | rfl)
                · omega
                · omega))
            clear hrt hrd hrd2
            go_wp2_with fail
            clear hbt hmx hW2 e_0 e_1 e_2 e_3 f_0 f_1 f_2 f_3
            refine HPU.out.mono ?_
            rintro e w3 ⟨rfl, v3, q3, hh3, hk3, hf3, hp3⟩
            have HP3 := Lib.hid (HP2.out.hk hh3 hk3 hf3)
            have HQ3 := Lib.hid (HQN.out q3 hp3)
            clear hh3 hk3 hf3 hp3 HPU HQN HP2
            go_wp2_with fail
            go_roundw
            case rel => exact ⟨i + 1, v3, q3, hil, by go_num, HP3, HQ3⟩
            case measure => simp [intOf] <;> omega
          · have hbt : (x0 == t) = false := by simpa using hrt
            have HQ3 := Lib.hid (HQI.out.same (A' := fun x => rdy J from_ x < t ∨ rdy J from_ x = t ∧ x < i + 1) (fun y _ => by
              constructor
              · intro h
                by_cases e : y = i
                · subst e; omega
                · omega
              · intro h; omega))
            clear hrt hrd hrd2 HPU
            go_wp2_with fail
            go_roundw
            case rel => exact ⟨i + 1, v, q, hil, by go_num, HP2, HQ3⟩
            case measure => simp [intOf] <;> omega
      · obtain rfl : i = J.length := by omega
        have HQ2 := Lib.hid (show QI J (fun x => rdy J from_ x ≤ t) t s.1 q from HQI.out.same (fun y hy => by omega))
        clear HQI
        go_wp2_with fail
        go_loopw [7, 11] (fun vo _ wr => ∃ (v : Value) (q : List Nat), Hid (PI w wr R (R + 1) (.slice jo J.length cap) J s.1 s.2 v vo q) ∧ Hid (QI J (fun x => rdy J from_ x ≤ t) t s.1 q)) (fun _ _ wr => qlen wr R)
        case atStart => exact ⟨v, q, HPI, HQ2⟩
        case round =>
          clear HPI HQ2
          obtain ⟨v, q, HPI, HQI⟩ := hrel
          have HL := Lib.hid (hq_len HPI.out.hq)
          have HM := Lib.hid HPI.out.hq.qlen
          go_wp2_with fail
          refine HL.out.mono ?_
          rintro e w1 ⟨rfl, hb1⟩
          have HP1 := Lib.hid (HPI.out.below hb1)
          clear HL hb1 HPI
          rcases Nat.eq_zero_or_pos q.length with h0 | h0
          · have h0i : (q.length : Int) ≤ 0 := by omega
            have HBN := Lib.hid (HQI.out.empty h0)
            have HQN := Lib.hid (HQI.out.next HCI.out)
            have HSN := Lib.hid (show planS J from_ (k + 1) = s by rw [HST.out, pstep_none HBN.out])
            rw [pstep_none HBN.out] at HQN
            clear HQI HBN
            go_wp2_with fail
            go_roundw
            case rel => exact ⟨k + 1, v, q, by (have := HT.out; omega), by (have := HT.out; go_num), by rw [HSN.out]; exact HP1.out, by rw [HSN.out, show from_ + ((k + 1 : Nat) : Int) = t + 1 by have := HT.out; omega]; exact HQN.out⟩
            case measure => simp [intOf] <;> omega
          have h0i : 0 < (q.length : Int) := by omega
          have HF := Lib.hid (hq_first HP1.out.hq h0)
          go_wp2_with fail
          refine HF.out.mono ?_
          rintro e w2 ⟨rfl, hb2⟩
          have HP2 := Lib.hid (HP1.out.below hb2)
          clear HF hb2 HP1
          have hm := HQI.out.mem (at_ q 0) (by rw [at_get h0]; exact List.getElem_mem h0)
          have hxl := hm.1
          have HFI := Lib.hid (fun hd => HQI.out.first HCI.out HP2.out.heap h0 hd)
          have HMEM := Lib.hid (fun y hy => (HQI.out.mem y hy).1)
          have hql : q.length ≤ 1000 := by have := HQI.out.len; omega
          have HX0 := Lib.hid (show at_ q 0 = at_ q 0 from rfl)
          have HQP := Lib.hid (fun q' hp hd => HQI.out.pop (q' := q') (x := at_ q 0) hp hd)
          have HDD := Lib.hid (show dead J t s.1 (at_ q 0) ↔ ((jat J (at_ q 0)).due < t ∨ (at_ s.1 (at_ q 0) : Int) = (jat J (at_ q 0)).pieces) from Iff.rfl)
          have hcl := HCI.out.len
          have hs0 := HP2.out.sent.cellG cN_len (j := at_ q 0) (i := 0) (a := s.1[at_ q 0]'(by omega)) (List.getElem?_eq_getElem (by omega)) rfl
          rw [← at_get (show at_ q 0 < s.1.length by omega)] at hs0
          simp only [Nat.mul_one, Nat.add_zero] at hs0
          have hci := HCI.out.le (at_ q 0) hxl
          have HQNX := Lib.hid (HQI.out.next HCI.out)
          have HY2B := Lib.hid (show (jat J (at_ q 0)).pieces ≤ 32 by rw [jat_get hxl]; exact (jobB_iff.1 (HV.out _ (List.getElem_mem hxl))).2.2.2.2.1)
          clear hm HQI
          obtain ⟨x, hx0⟩ : ∃ x, at_ q 0 = x := ⟨_, rfl⟩
          replace HX0 := Lib.hid hx0
          rw [hx0] at hxl HFI HQP HDD hs0 hci HY2B ⊢
          clear hx0
          obtain ⟨bj, offj, ej, hbj, hrow⟩ := (HJS.out w2 HP2.out.low).get hxl
          subst ej
          obtain ⟨e_0, e_1, e_2, e_3⟩ := (hrow x hxl).c4
          rw [jat_get hxl] at HDD hci HY2B
          clear hrow
          generalize J[x] = y at *
          obtain ⟨y0, y1, y2, y3⟩ := y
          generalize hcx : at_ s.1 x = cx at *
          dsimp only at e_0 e_1 e_2 e_3 HDD hci HY2B
          have hxi : (x : Int) < (J.length : Int) := by omega
          by_cases hd1 : y1 < t
          · have HQN := Lib.hid (fun q' hp => HQP.out q' hp (HDD.out.2 (.inl hd1)))
            clear HDD HFI HQP
            go_wp2_with fail
            have y_e_0 := cell_regrown e_0
            have y_e_1 := cell_regrown e_1
            have y_e_2 := cell_regrown e_2
            have y_e_3 := cell_regrown e_3
            clear e_0 e_1 e_2 e_3
            have y_s0 := cell_regrown hs0
            refine wp_region_plan (C := fun w' => ∃ p : Regrown, w' = grow (redrawn w2 p.d) p.os) (.q 0 (.q 1 (.q 2 (.q 3 (.q 4 (.q 5 (.q 6 (.q 7 (.q 8 (.q 9 (.q 10 (.q 11 (.q 12 (.q 13 (.q 14 (.q 15 (.q 16 (.q 17 (.q 18 (.done)))))))))))))))))))) 19 (by kernel_rfl) (by kernel_rfl) (grew_drew _) ?_
            repeat (any_goals (first | (go_big_quiet_skip; refine wpQuiet_nil ?_) | (go_big_quiet_want; go_big_quiet_op; go_big_quiet_on; refine wpQuiet_nil ?_) | ((with_reducible apply q_split); exact rfl; intro q hq; cases q <;> (rw [hq]; (try first | replace hq := bnot_t hq | replace hq := bnot_f hq); (try first | replace hq := of_decide_eq_true hq | replace hq := of_decide_eq_false hq | replace hq := eq_of_beq hq); (try first | replace hq := Int.not_lt.1 hq | replace hq := Int.not_le.1 hq | replace hq := Nat.not_lt.1 hq | replace hq := Nat.not_le.1 hq); try (exfalso; omega))) | (refine plan_q rfl rfl ?_)))
            clear y_e_0 y_e_1 y_e_2 y_e_3
            clear y_s0
            all_goals refine plan_done ?_
            all_goals (try simp only [List.drop_succ_cons, List.drop_zero])
            all_goals (try go_wp2_with fail)
            all_goals refine NoPanic.normal ?_
            all_goals (try go_wp2_with fail)
            have HPO := Lib.hid (hpop_any R (R + 1) _ _ cap J v q w2.drew (HP2.out.below (Below.refl _ _).drew).hq (Nat.lt_succ_self R) (by have := HP2.out.size; simpa using (show R < w2.heap.size by omega)) (fun W hW => HJS.out W (HP2.out.low.trans ((Below.refl _ _).drew.trans hW))) HMEM.out hql h0 HP2.out.heap)
            rw [HX0.out] at HPO
            refine HPO.out.mono ?_
            rintro e w3 ⟨rfl, v3, q3, hh3, hk3, hf3, hp3⟩
            have HP3 := Lib.hid ((HP2.out.below (Below.refl _ _).drew).hk hh3 hk3 hf3)
            have HQ3 := Lib.hid (HQN.out q3 hp3)
            have HL3 := Lib.hid (show q3.length + 1 = q.length by have := hp3.length_eq; simpa using this)
            have HM3 := Lib.hid hh3.qlen
            clear hh3 hk3 hf3 hp3 HPO HQN HP2
            go_wp2_with fail
            go_roundw
            case rel => exact ⟨v3, q3, HP3, HQ3⟩
            case measure =>
              have h1 := HM3.out
              have h2 := HM.out
              have h3 := HL3.out
              omega
          by_cases hd2 : (cx : Int) = y2
          · have HQN := Lib.hid (fun q' hp => HQP.out q' hp (HDD.out.2 (.inr hd2)))
            have hd2b : ((cx : Int) == y2) = true := by simpa using hd2
            replace hd1 := Int.not_lt.1 hd1
            clear hd2
            clear HDD HFI HQP
            go_wp2_with fail
            have y_e_0 := cell_regrown e_0
            have y_e_1 := cell_regrown e_1
            have y_e_2 := cell_regrown e_2
            have y_e_3 := cell_regrown e_3
            clear e_0 e_1 e_2 e_3
            have y_s0 := cell_regrown hs0
            refine wp_region_plan (C := fun w' => ∃ p : Regrown, w' = grow (redrawn w2 p.d) p.os) (.q 0 (.q 1 (.q 2 (.q 3 (.q 4 (.q 5 (.q 6 (.q 7 (.q 8 (.q 9 (.q 10 (.q 11 (.q 12 (.q 13 (.q 14 (.q 15 (.q 16 (.q 17 (.q 18 (.done)))))))))))))))))))) 19 (by kernel_rfl) (by kernel_rfl) (grew_drew _) ?_
            repeat (any_goals (first | (go_big_quiet_skip; refine wpQuiet_nil ?_) | (go_big_quiet_want; go_big_quiet_op; go_big_quiet_on; refine wpQuiet_nil ?_) | ((with_reducible apply q_split); exact rfl; intro q hq; cases q <;> (rw [hq]; (try first | replace hq := bnot_t hq | replace hq := bnot_f hq); (try first | replace hq := of_decide_eq_true hq | replace hq := of_decide_eq_false hq | replace hq := eq_of_beq hq); (try first | replace hq := Int.not_lt.1 hq | replace hq := Int.not_le.1 hq | replace hq := Nat.not_lt.1 hq | replace hq := Nat.not_le.1 hq); try (exfalso; omega))) | (refine plan_q rfl rfl ?_)))
            clear y_e_0 y_e_1 y_e_2 y_e_3
            clear y_s0
            all_goals refine plan_done ?_
            all_goals (try simp only [List.drop_succ_cons, List.drop_zero])
            all_goals (try go_wp2_with fail)
            all_goals refine NoPanic.normal ?_
            all_goals (try go_wp2_with fail)
            have HPO := Lib.hid (hpop_any R (R + 1) _ _ cap J v q w2.drew (HP2.out.below (Below.refl _ _).drew).hq (Nat.lt_succ_self R) (by have := HP2.out.size; simpa using (show R < w2.heap.size by omega)) (fun W hW => HJS.out W (HP2.out.low.trans ((Below.refl _ _).drew.trans hW))) HMEM.out hql h0 HP2.out.heap)
            rw [HX0.out] at HPO
            refine HPO.out.mono ?_
            rintro e w3 ⟨rfl, v3, q3, hh3, hk3, hf3, hp3⟩
            have HP3 := Lib.hid ((HP2.out.below (Below.refl _ _).drew).hk hh3 hk3 hf3)
            have HQ3 := Lib.hid (HQN.out q3 hp3)
            have HL3 := Lib.hid (show q3.length + 1 = q.length by have := hp3.length_eq; simpa using this)
            have HM3 := Lib.hid hh3.qlen
            clear hh3 hk3 hf3 hp3 HPO HQN HP2
            go_wp2_with fail
            go_roundw
            case rel => exact ⟨v3, q3, HP3, HQ3⟩
            case measure =>
              have h1 := HM3.out
              have h2 := HM.out
              have h3 := HL3.out
              omega
          have HBS := Lib.hid (HFI.out (fun h => (HDD.out.1 h).elim hd1 hd2))
          have hd2b : ((cx : Int) == y2) = false := by simpa using hd2
          replace hd1 := Int.not_lt.1 hd1
          clear hd2 HQP HDD HFI
          go_wp2_with fail
          have hy32 : (cx : Int) ≤ 32 := by have := HY2B.out; omega
          have y_e_0 := cell_regrown e_0
          have y_e_1 := cell_regrown e_1
          have y_e_2 := cell_regrown e_2
          have y_e_3 := cell_regrown e_3
          clear e_0 e_1 e_2 e_3
          have y_s0 := cell_regrown hs0
          refine wp_region_plan (C := fun w' => ∃ p : Regrown, w' = grow (redrawn w2 p.d) p.os) (.q 0 (.q 1 (.q 2 (.q 3 (.q 4 (.q 5 (.q 6 (.q 7 (.q 8 (.q 9 (.q 10 (.q 11 (.q 12 (.q 13 (.q 14 (.q 15 (.q 16 (.q 17 (.q 18 (.done)))))))))))))))))))) 19 (by kernel_rfl) (by kernel_rfl) (grew_drew _) ?_
          repeat (any_goals (first | (go_big_quiet_skip; refine wpQuiet_nil ?_) | (go_big_quiet_want; go_big_quiet_op; go_big_quiet_on; refine wpQuiet_nil ?_) | ((with_reducible apply q_split); exact rfl; intro q hq; cases q <;> (rw [hq]; (try first | replace hq := bnot_t hq | replace hq := bnot_f hq); (try first | replace hq := of_decide_eq_true hq | replace hq := of_decide_eq_false hq | replace hq := eq_of_beq hq); (try first | replace hq := Int.not_lt.1 hq | replace hq := Int.not_le.1 hq | replace hq := Nat.not_lt.1 hq | replace hq := Nat.not_le.1 hq); try (exfalso; omega))) | (refine plan_q rfl rfl ?_)))
          clear y_e_0 y_e_1 y_e_2 y_e_3
          clear y_s0 hs0
          all_goals refine plan_done ?_
          all_goals (try simp only [List.drop_succ_cons, List.drop_zero])
          all_goals (try go_wp2_with fail)
          all_goals refine NoPanic.normal ?_
          obtain ⟨W3, hW3⟩ : ∃ W, w2.drew = W := ⟨_, rfl⟩
          first | rw [hW3] | rw [show ({ heap := w2.heap, tape := w2.tape, drawn := w2.drawn + 1, os := w2.os, output := w2.output } : World) = W3 from hW3]
          have HP3 := Lib.hid (HP2.out.below (w' := W3) (hW3 ▸ (Below.refl _ _).drew))
          clear hW3 HP2
          have hsx : s.1[x]? = some cx := by rw [List.getElem?_eq_getElem (by omega), ← at_get (by omega), hcx]
          have s_3 := HP3.out.sent.cellG cN_len (j := x) (i := 0) (a := cx) hsx rfl
          simp only [Nat.mul_one, Nat.add_zero] at s_3
          obtain ⟨P, hP⟩ : ∃ P, W3.heap.size = P := ⟨_, rfl⟩
          obtain ⟨W4, hW4, hB4, hZ4, hb4⟩ := boxes1 W3 [.int .i64 t, .int .i64 (x : Int), .int .i64 (cx : Int)] 46
          rw [hP] at hb4
          have HX4 := Lib.hid (show Sl W4 3 cS (some ⟨P, 0, none⟩) 1 1 [(⟨t, x, cx⟩ : Sn)] from Sl.one (x := (⟨t, x, cx⟩ : Sn)) cS_len hb4)
          have HP4 := Lib.hid (HP3.out.below hB4)
          clear hB4 hZ4 hb4 HP3
          go_wp2_with (at_builtin; refine wpList_append_lie rfl _ _ 23 rfl (R + 1) 46 i1 _ 3 24 Try.underlying23 HJ.out HY0.out HY1.out HY2.out rfl (by decide) cS_len cS_one _ s.2 rfl HP4.out.outs (some ⟨P, 0, none⟩) 1 1 [(⟨t, x, cx⟩ : Sn)] rfl HX4.out (by omega) (by unfold maxLen; omega) (by omega) (by have := HP4.out.size; omega) ?_)
          rintro g cap6 w6 ho6 hl6 hg6 hlie hgs
          clear hW4 s_3 hP
          have HS6 := Lib.hid (HP4.out.sent.far hg6 HP4.out.a3.symm)
          have HB6 := Lib.hid (HP4.out.hq.box.grown hg6 (fun e => by have := (World.ownsRow.lt HP4.out.outs R e.symm).1; omega))
          have HV6 := Lib.hid (HP4.out.hq.own.far hg6 HP4.out.a2.symm)
          have HO6 := Lib.hid ho6
          have HL6 := Lib.hid (HP4.out.low.trans (hl6 R (by omega)))
          have HZ6 := Lib.hid hg6.size
          have HA2 := Lib.hid (Apart.lie (n := s.2.length + 1) (cap := cap6) HP4.out.a2 (fun k hk => (World.ownsRow.lt HP4.out.hq.own k hk).2) hlie)
          have HA3 := Lib.hid (Apart.lie (n := s.2.length + 1) (cap := cap6) HP4.out.a3 (fun k hk => (World.ownsRow.lt HP4.out.sent k hk).2) hlie)
          have s_6 := HS6.out.cellG cN_len (j := x) (i := 0) (a := cx) hsx rfl
          have s_f := HS6.out.frozenG
          simp only [Nat.mul_one, Nat.add_zero] at s_6
          have hst := OwnL.setG cN_len HS6.out (j := x) (by omega) (i := 0) (by decide) (u := .int .i64 ((cx : Int) + 1)) (a := cx + 1) rfl
          simp only [Nat.mul_one, Nat.add_zero] at hst
          have HST6 := Lib.hid hst
          clear hst ho6 hl6 hg6 hlie hgs
          obtain ⟨W7, hW7⟩ : ∃ W7, w6.setCell ⟨R + 1, x, none⟩ (.int .i64 ((cx : Int) + 1)) = W7 := ⟨_, rfl⟩
          rw [hW7] at HST6
          have HP7 := Lib.hid (show PI w W7 R (R + 1) _ J (s.1.set x (cx + 1)) (s.2 ++ [(⟨t, x, cx⟩ : Sn)]) v (.slice (some ⟨g, 0, none⟩) (s.2.length + 1) cap6) q from
            ⟨⟨by rw [← hW7]; exact HB6.out.other (by omega), HV6.out.far (u := vS (R + 1) J.length) HST6.out.2 HP4.out.a1.symm⟩, HP4.out.heap, HST6.out.1, HO6.out.far (u := vS (R + 1) J.length) HST6.out.2 HA3.out, HP4.out.a1, HA2.out, HA3.out, by rw [← hW7]; exact HL6.out.setCell (p := ⟨R + 1, x, none⟩) (Nat.le_succ R) _, by have := HP4.out.size; have := HZ6.out; have := HST6.out.2.size; omega⟩)
          have HSN := Lib.hid (show planS J from_ (k + 1) = (s.1.set x (cx + 1), s.2 ++ [(⟨t, x, cx⟩ : Sn)]) by rw [HST.out, pstep_some HBS.out, hcx])
          have HQ7 := Lib.hid (show QI J (fun x => rdy J from_ x < t + 1) (t + 1) (s.1.set x (cx + 1)) q by have := HQNX.out; rw [← HST.out, HSN.out] at this; exact this)
          clear HST6 HB6 HV6 HO6 HL6 HS6 HZ6 HA2 HA3 HP4 hsx HX4
          go_wp2_with fail
          go_roundw
          case rel => exact ⟨k + 1, v, q, by (have := HT.out; omega), by (have := HT.out; go_num), by rw [HSN.out]; exact HP7.out, by rw [HSN.out, show from_ + ((k + 1 : Nat) : Int) = t + 1 by have := HT.out; omega]; exact HQ7.out⟩
          case measure => simp [intOf] <;> omega
end Go.Proofs.Ytheioedggjbphaa
