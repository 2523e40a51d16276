/-
  Walks of the layer 'eyes': Replay's results lie in rows of one's own.
-/
import Derived.Test.YtmbnhlihcnbebaaEyJ
set_option linter.unusedVariables false
namespace Go.Proofs.Ytmbnhlihcnbebaa
open Go Go.RowKit Ey Sk
def ReplO (w : World) (s : RS) (e : Ending) (w' : World) : Prop := ∃ v1 v2, e = .returned (.tuple #[v1, v2]) ∧ OwnL w' w.heap.size 33 12 cD v1 s.L ∧ OwnL w' w.heap.size 25 1 cI v2 s.came ∧ Below w.heap.size w w'


set_option maxRecDepth 100000 in
set_option maxHeartbeats 8000000 in
theorem replay_own (hko : KeysOk) (ao : Option Addr) (n cap : Nat) (l : List Ac) (w : World) (hs : Sl w 8 cA ao n cap l) (hl : l.length ≤ 50000) : Calls Try.prog 15 #[.slice ao n cap] w (ReplO w (replS l)) := by
  obtain rfl := hs.len
  have hcap := hs.max
  have hle := hs.le
  unfold maxLen at hcap
  have HS := Lib.hid hs
  have HKO := Lib.hid hko
  have hmm := @run_makeMap Try.prog
  obtain ⟨i0, hi, hz0, hz1, hz2⟩ := info_parts info_errno
  have HI := Lib.hid hi
  have HZ0 := Lib.hid hz0
  have HZ1 := Lib.hid hz1
  have HZ2 := Lib.hid hz2
  clear hs hko hi hz0 hz1 hz2
  go_enter Try.func15, Try.ntmps15
  go_wp2_with fail
  clear hmm
  go_loopw [5, 6, 13] (fun cm la i wr => ∃ k : Nat, k ≤ l.length ∧ i = .int .i64 k ∧ la = .int .i64 (replS (l.take k)).last ∧ Below w.heap.size w wr ∧ w.heap.size + 1 ≤ wr.heap.size ∧ Hid (OwnL wr (w.heap.size + 1) 25 1 cI cm (replS (l.take k)).came) ∧ Hid (StOf wr w.heap.size k (replS (l.take k)).L)) (fun _ _ i _ => l.length - (intOf i).toNat)
  case atStart => exact ⟨0, by omega, rfl, rfl, grew1 (Below.refl _ _), by simp, OwnL.nil, StOf.made w⟩
  case round =>
    obtain ⟨k, hk, rfl, rfl, HB_wr, hsz, HO, HST⟩ := hrel
    by_cases hlt : k < l.length
    · obtain ⟨b', off, rfl, hb, hrow⟩ := HS.out.get hlt
      obtain ⟨e_0, e_1, e_2, e_3, e_4, e_5, e_6, e_7⟩ := ((hrow k hlt).below HB_wr hb).c8
      have hcl := replS_came (l.take k)
      rw [List.length_take_of_le hk] at hcl
      have HN := Lib.hid (replS_succ hlt)
      have H1 := Lib.hid (@rstep_limit (replS (l.take k)) l[k])
      have H2 := Lib.hid (@rstep_arg (replS (l.take k)) l[k])
      have H3 := Lib.hid (@rstep_old (replS (l.take k)) l[k])
      have H4 := Lib.hid (@rstep_do (replS (l.take k)) l[k])
      have HVA := Lib.hid (fun W => valid_any l[k] W)
      have HACT := Lib.hid (fun b n w => act_any b n (replS (l.take k)).L l[k] w)
      clear hrow
      generalize replS (l.take k) = s at *
      generalize l[k] = a at *
      obtain ⟨L, la, cm⟩ := s
      dsimp only at hcl H1 H2 H3 H4 HO HST
      obtain ⟨a0, a1, a2, a3, ⟨a4, a5, a6, a7⟩⟩ := a
      dsimp only at e_0 e_1 e_2 e_3 e_4 e_5 e_6 e_7
      obtain ⟨W1, hW1, hB1, hZ1, hb1⟩ := boxes1 wr [.int .i64 a0, .int .i64 a1, .int .i64 a2, .int .i64 a3, .int .i64 a4, .int .i64 a5, .int .i64 a6, .int .i64 a7] 37
      have H_s := Lib.hid hb1
      have HB_W1 : Below w.heap.size w W1 := after0 HB_wr hB1
      have HST1 := Lib.hid (HST.out.below hB1)
      have HO1 := Lib.hid (HO.out.below hB1)
      have hsz1 : w.heap.size + 1 ≤ W1.heap.size := by omega
      clear hb1 hZ1 hB1 HST HO
      obtain ⟨q_s_0, q_s_1, q_s_2, q_s_3, q_s_4, q_s_5, q_s_6, q_s_7⟩ := H_s.out.c8
      by_cases h200 : 200 ≤ k
      · have HNX := Lib.hid (HN.out.trans (H1.out (by omega)))
        have h2i : 200 ≤ (k : Int) := by omega
        have HO9 := HO1
        clear H1 H2 H3 H4 HN HVA HACT
        have HOX := Lib.hid (HO9.out.alloc (.cells #[.int .i64 2] 25))
        have HSX : Hid (Sl (W1.alloc (.cells #[.int .i64 2] 25)) 1 cI (some ⟨W1.heap.size, 0, none⟩) 1 1 [2]) := Sl.one (x := 2) cI_len (Box.new W1 (cI 2) 25)
        have hszx : w.heap.size + 1 ≤ (W1.alloc (.cells #[.int .i64 2] 25)).heap.size := by simp; omega
        go_wp2_with (at_builtin; refine wpList_append_sl rfl _ _ 39 rfl (w.heap.size + 1) 25 i0 _ 1 8 Try.underlying39 HI.out HZ0.out HZ1.out HZ2.out rfl (by decide) cI_len cI_one _ cm rfl HOX.out (some ⟨W1.heap.size, 0, none⟩) 1 1 [2] rfl HSX.out (by unfold maxLen; omega) (by omega) hszx ?_)
        rintro v' w6 ho6 hg6 hgr6
        have HB_6 : Below w.heap.size w w6 := (grew1 HB_W1).trans (hg6 _ (by omega))
        have HO6 := Lib.hid ho6
        have HST6 := Lib.hid ((HST1.out.alloc (.cells #[.int .i64 2] 25)).low (hg6 _ (Nat.le_refl _)) (Nat.lt_succ_self _))
        have hs6 : w.heap.size + 1 ≤ w6.heap.size := Nat.le_trans hszx hgr6.size
        clear hg6 hgr6 ho6 HOX HSX hszx HO9
        go_wp2_with fail
        go_roundw
        case rel => exact ⟨k + 1, hlt, by go_num, by rw [HNX.out], HB_6, hs6, by rw [HNX.out]; exact HO6.out, by rw [HNX.out]; first | exact HST6.out | exact HST6.out.mono (Nat.le_succ _)⟩
        case measure => simp [intOf] <;> omega
      have h2i : (k : Int) < 200 := by omega
      have hc2 : ¬ 200 ≤ cm.length := by omega
      replace H2 := Lib.hid (H2.out hc2)
      replace H3 := Lib.hid (H3.out hc2)
      replace H4 := Lib.hid (H4.out hc2)
      clear h200 hc2 H1
      dsimp only [eA] at HVA
      go_wp2_with fail
      clear hW1 e_0 e_1 e_2 e_3 e_4 e_5 e_6 e_7
      refine (HVA.out _).mono ?_
      rintro e wa ⟨rfl, hb_wa⟩
      have HB_wa : Below w.heap.size w wa := by first | exact after0 HB_W1 hb_wa | exact after1 HB_W1 hb_wa | exact after2 HB_W1 hb_wa | exact after3 HB_W1 hb_wa | exact after4 HB_W1 hb_wa | exact after5 HB_W1 hb_wa
      try clear q_s_0 q_s_1 q_s_2 q_s_3 q_s_4 q_s_5 q_s_6 q_s_7
      have H_s := Lib.hid (Box.below (by first | exact H_s.out | exact H_s.out.alloc _ | exact (H_s.out.alloc _).alloc _ | exact ((H_s.out.alloc _).alloc _).alloc _) hb_wa)
      obtain ⟨q_s_0, q_s_1, q_s_2, q_s_3, q_s_4, q_s_5, q_s_6, q_s_7⟩ := H_s.out.c8
      have HST2 := Lib.hid (HST1.out.below hb_wa)
      have HO2 := Lib.hid (HO1.out.below hb_wa)
      have hsz2 := Nat.le_trans hsz1 hb_wa.size
      cases h1 : validA ⟨a0, a1, a2, a3, ⟨a4, a5, a6, a7⟩⟩
      · have HNX := Lib.hid (HN.out.trans (H2.out h1))
        have HO9 := HO2
        clear h1 H2 H3 H4 HN HVA HACT
        have HOX := Lib.hid (HO9.out.alloc (.cells #[.int .i64 1] 25))
        have HSX : Hid (Sl (wa.alloc (.cells #[.int .i64 1] 25)) 1 cI (some ⟨wa.heap.size, 0, none⟩) 1 1 [1]) := Sl.one (x := 1) cI_len (Box.new wa (cI 1) 25)
        have hszx : w.heap.size + 1 ≤ (wa.alloc (.cells #[.int .i64 1] 25)).heap.size := by simp; omega
        go_wp2_with (at_builtin; refine wpList_append_sl rfl _ _ 39 rfl (w.heap.size + 1) 25 i0 _ 1 8 Try.underlying39 HI.out HZ0.out HZ1.out HZ2.out rfl (by decide) cI_len cI_one _ cm rfl HOX.out (some ⟨wa.heap.size, 0, none⟩) 1 1 [1] rfl HSX.out (by unfold maxLen; omega) (by omega) hszx ?_)
        rintro v' w6 ho6 hg6 hgr6
        have HB_6 : Below w.heap.size w w6 := (grew1 HB_wa).trans (hg6 _ (by omega))
        have HO6 := Lib.hid ho6
        have HST6 := Lib.hid ((HST2.out.alloc (.cells #[.int .i64 1] 25)).low (hg6 _ (Nat.le_refl _)) (Nat.lt_succ_self _))
        have hs6 : w.heap.size + 1 ≤ w6.heap.size := Nat.le_trans hszx hgr6.size
        clear hg6 hgr6 ho6 HOX HSX hszx HO9
        go_wp2_with fail
        go_roundw
        case rel => exact ⟨k + 1, hlt, by go_num, by rw [HNX.out], HB_6, hs6, by rw [HNX.out]; exact HO6.out, by rw [HNX.out]; first | exact HST6.out | exact HST6.out.mono (Nat.le_succ _)⟩
        case measure => simp [intOf] <;> omega
      replace H3 := Lib.hid (H3.out h1)
      replace H4 := Lib.hid (H4.out h1)
      have HV1 := Lib.hid h1
      clear h1 H2
      by_cases hold : a3 < la
      · have HNX := Lib.hid (HN.out.trans (H3.out hold))
        have HO9 := HO2
        clear H3 H4 HN HVA HACT
        have HOX := Lib.hid (HO9.out.alloc (.cells #[.int .i64 13] 25))
        have HSX : Hid (Sl (wa.alloc (.cells #[.int .i64 13] 25)) 1 cI (some ⟨wa.heap.size, 0, none⟩) 1 1 [13]) := Sl.one (x := 13) cI_len (Box.new wa (cI 13) 25)
        have hszx : w.heap.size + 1 ≤ (wa.alloc (.cells #[.int .i64 13] 25)).heap.size := by simp; omega
        go_wp2_with (at_builtin; refine wpList_append_sl rfl _ _ 39 rfl (w.heap.size + 1) 25 i0 _ 1 8 Try.underlying39 HI.out HZ0.out HZ1.out HZ2.out rfl (by decide) cI_len cI_one _ cm rfl HOX.out (some ⟨wa.heap.size, 0, none⟩) 1 1 [13] rfl HSX.out (by unfold maxLen; omega) (by omega) hszx ?_)
        rintro v' w6 ho6 hg6 hgr6
        have HB_6 : Below w.heap.size w w6 := (grew1 HB_wa).trans (hg6 _ (by omega))
        have HO6 := Lib.hid ho6
        have HST6 := Lib.hid ((HST2.out.alloc (.cells #[.int .i64 13] 25)).low (hg6 _ (Nat.le_refl _)) (Nat.lt_succ_self _))
        have hs6 : w.heap.size + 1 ≤ w6.heap.size := Nat.le_trans hszx hgr6.size
        clear hg6 hgr6 ho6 HOX HSX hszx HO9
        go_wp2_with fail
        go_roundw
        case rel => exact ⟨k + 1, hlt, by go_num, by rw [HNX.out], HB_6, hs6, by rw [HNX.out]; exact HO6.out, by rw [HNX.out]; first | exact HST6.out | exact HST6.out.mono (Nat.le_succ _)⟩
        case measure => simp [intOf] <;> omega
      replace hold := Int.not_lt.1 hold
      have HNX := Lib.hid (HN.out.trans (H4.out hold))
      try dsimp only at HNX
      clear H3 H4 HN HVA
      go_wp2_with fail
      refine (HACT.out w.heap.size k wa HST2.out (by omega) HV1.out).mono ?_
      rintro e wb ⟨rfl, hst, hg⟩
      have HB_wb : Below w.heap.size w wb := HB_wa.grown hg HB_wa.size (fun j hj => by cases hj; exact Nat.le_refl _)
      have HST3 := Lib.hid hst
      have HO9 := Lib.hid (own_past HO2.out hg (Nat.lt_succ_self _))
      have hsz3 := Nat.le_trans hsz2 hg.size
      clear hst hg HACT HST2 HO2
      generalize actS L ⟨a0, a1, a2, a3, ⟨a4, a5, a6, a7⟩⟩ = act at *
      obtain ⟨L2, q⟩ := act
      dsimp only at HST3 HNX
      have HOX := Lib.hid (HO9.out.alloc (.cells #[.int .i64 q] 25))
      have HSX : Hid (Sl (wb.alloc (.cells #[.int .i64 q] 25)) 1 cI (some ⟨wb.heap.size, 0, none⟩) 1 1 [q]) := Sl.one (x := q) cI_len (Box.new wb (cI q) 25)
      have hszx : w.heap.size + 1 ≤ (wb.alloc (.cells #[.int .i64 q] 25)).heap.size := by simp; omega
      go_wp2_with (at_builtin; refine wpList_append_sl rfl _ _ 39 rfl (w.heap.size + 1) 25 i0 _ 1 8 Try.underlying39 HI.out HZ0.out HZ1.out HZ2.out rfl (by decide) cI_len cI_one _ cm rfl HOX.out (some ⟨wb.heap.size, 0, none⟩) 1 1 [q] rfl HSX.out (by unfold maxLen; omega) (by omega) hszx ?_)
      rintro v' w6 ho6 hg6 hgr6
      have HB_6 : Below w.heap.size w w6 := (grew1 HB_wb).trans (hg6 _ (by omega))
      have HO6 := Lib.hid ho6
      have HST6 := Lib.hid ((HST3.out.alloc (.cells #[.int .i64 q] 25)).low (hg6 _ (Nat.le_refl _)) (Nat.lt_succ_self _))
      have hs6 : w.heap.size + 1 ≤ w6.heap.size := Nat.le_trans hszx hgr6.size
      clear hg6 hgr6 ho6 HOX HSX hszx HO9
      go_wp2_with fail
      go_roundw
      case rel => exact ⟨k + 1, hlt, by go_num, by rw [HNX.out], HB_6, hs6, by rw [HNX.out]; exact HO6.out, by rw [HNX.out]; first | exact HST6.out | exact HST6.out.mono (Nat.le_succ _)⟩
      case measure => simp [intOf] <;> omega
    · obtain rfl : k = l.length := by omega
      rw [List.take_length] at HO HST
      have hLl := (replS_sor l).2
      generalize replS l = s at *
      obtain ⟨L, la, cm⟩ := s
      dsimp only at HO HST hLl
      go_wp2_with fail
      refine (list_any HKO.out w.heap.size _ L _ HST.out (by omega) (by omega)).mono ?_
      rintro e wa ⟨v, rfl, ho, hb_wa⟩
      have HB_wa : Below w.heap.size w wa := by first | exact after0 HB_wr hb_wa | exact after1 HB_wr hb_wa | exact after2 HB_wr hb_wa | exact after3 HB_wr hb_wa | exact after4 HB_wr hb_wa | exact after5 HB_wr hb_wa
      have HOV := Lib.hid ho
      have HOC := Lib.hid (HO.out.below hb_wa)
      have hwr := HB_wr.size
      clear ho
      go_wp2_with fail
      go_ret2
      exact ⟨_, _, rfl, HOV.out.mono hwr, HOC.out.mono (Nat.le_succ _), HB_wa⟩
end Go.Proofs.Ytmbnhlihcnbebaa
