/-
  Walks of the layer 'eyes': Do, Replay.
-/
import Derived.Test.YtmbnhlihcnbebaaEyI
set_option linter.unusedVariables false
namespace Ey
theorem dl_len (L : List Dg) (x : Int) : (dl L x).length ≤ L.length := List.length_filter_le _ _
theorem pt_len {L : List Dg} (hs : Sor L) (d : Dg) : (pt L d).length ≤ L.length + 1 := by
  unfold pt
  rw [List.length_append, List.length_cons]
  have h1 : (L.filter fun e => decide (e.id < d.id)).length + (L.filter fun e => decide (d.id < e.id)).length ≤ L.length := by
    clear hs
    induction L with
    | nil => simp
    | cons e L ih =>
      rw [List.filter_cons, List.filter_cons]
      by_cases h1 : e.id < d.id
      · rw [if_pos (by simpa using h1), if_neg (by simp; omega), List.length_cons, List.length_cons]; omega
      · rw [if_neg (by simpa using h1)]
        split <;> simp only [List.length_cons] <;> omega
  omega
theorem act_len {L : List Dg} (hs : Sor L) (a : Ac) : (actS L a).1.length ≤ L.length + 1 := by
  unfold actS
  split
  · exact Nat.le_succ _
  · split
    · exact pt_len hs _
    · exact Nat.le_trans (dl_len _ _) (Nat.le_succ _)
theorem doR_bad {L : List Dg} {a : Ac} (h : stateB L = false ∨ validA a = false) : doR L a = ([], 1) := by unfold doR; rw [if_neg]; rcases h with h | h <;> simp [h]
theorem doR_err {L : List Dg} {a : Ac} (h1 : stateB L = true) (h2 : validA a = true) (h3 : (actS L a).2 ≠ 0) : doR L a = ([], (actS L a).2) := by unfold doR; rw [if_pos (by simp [h1, h2]), if_pos h3]
theorem doR_ok {L : List Dg} {a : Ac} (h1 : stateB L = true) (h2 : validA a = true) (h3 : (actS L a).2 = 0) : doR L a = ((actS L a).1, 0) := by unfold doR; rw [if_pos (by simp [h1, h2]), if_neg (by simp [h3])]
theorem rstep_limit {s : RS} {a : Ac} (h : 200 ≤ s.came.length) : rstep s a = ⟨s.L, s.last, s.came ++ [2]⟩ := by unfold rstep; rw [if_pos h]
theorem rstep_arg {s : RS} {a : Ac} (h : ¬ 200 ≤ s.came.length) (h1 : validA a = false) : rstep s a = ⟨s.L, s.last, s.came ++ [1]⟩ := by unfold rstep; rw [if_neg h, if_pos h1]
theorem rstep_old {s : RS} {a : Ac} (h : ¬ 200 ≤ s.came.length) (h1 : validA a = true) (h2 : a.time < s.last) : rstep s a = ⟨s.L, s.last, s.came ++ [13]⟩ := by unfold rstep; rw [if_neg h, if_neg (by simp [h1]), if_pos h2]
theorem rstep_do {s : RS} {a : Ac} (h : ¬ 200 ≤ s.came.length) (h1 : validA a = true) (h2 : ¬ a.time < s.last) : rstep s a = ⟨(actS s.L a).1, a.time, s.came ++ [(actS s.L a).2]⟩ := by unfold rstep; rw [if_neg h, if_neg (by simp [h1]), if_neg h2]
theorem rstep_came (s : RS) (a : Ac) : (rstep s a).came.length = s.came.length + 1 := by
  unfold rstep
  split
  · simp
  · split
    · simp
    · split <;> simp
theorem replS_came (l : List Ac) : (replS l).came.length = l.length := by
  unfold replS
  suffices ∀ s : RS, (l.foldl rstep s).came.length = s.came.length + l.length by simpa using this ⟨[], 0, []⟩
  induction l with
  | nil => intro s; rfl
  | cons a l ih => intro s; rw [List.foldl_cons, ih, rstep_came, List.length_cons]; omega
theorem replS_succ {l : List Ac} {k : Nat} (h : k < l.length) : replS (l.take (k + 1)) = rstep (replS (l.take k)) l[k] := by
  unfold replS
  rw [List.take_add_one, List.getElem?_eq_getElem h, Option.toList_some, List.foldl_append]
  rfl
theorem rstep_sor {s : RS} (h : Sor s.L) (a : Ac) : Sor (rstep s a).L := by
  unfold rstep
  split
  · exact h
  · split
    · exact h
    · split
      · exact h
      · exact h.act a
theorem rstep_len {s : RS} (h : Sor s.L) (a : Ac) : (rstep s a).L.length ≤ s.L.length + 1 := by
  unfold rstep
  split
  · exact Nat.le_succ _
  · split
    · exact Nat.le_succ _
    · split
      · exact Nat.le_succ _
      · exact act_len h a
theorem replS_sor (l : List Ac) : Sor (replS l).L ∧ (replS l).L.length ≤ l.length := by
  unfold replS
  suffices ∀ s : RS, Sor s.L → Sor (l.foldl rstep s).L ∧ (l.foldl rstep s).L.length ≤ s.L.length + l.length by simpa using this ⟨[], 0, []⟩ List.Pairwise.nil
  induction l with
  | nil => intro s h; exact ⟨h, Nat.le_refl _⟩
  | cons a l ih =>
    intro s h
    rw [List.foldl_cons]
    have := ih (rstep s a) (rstep_sor h a)
    have h2 := rstep_len h a
    refine ⟨this.1, Nat.le_trans this.2 ?_⟩
    rw [List.length_cons]; omega
end Ey
namespace Go.Proofs.Ytmbnhlihcnbebaa
open Go Go.RowKit Ey Sk
/-- dangers and an error -/
def DgsE (w : World) (p : List Dg × Int) (e : Ending) (w' : World) : Prop := ∃ ao n cap, e = .returned (.tuple #[.slice ao n cap, .int .i64 p.2]) ∧ Sl w' 12 cD ao n cap p.1 ∧ Below w.heap.size w w'
/-- a row behind a map that is written -/
theorem own_past {α : Type} {enc : α → List Value} {w w' : World} {base e size b : Nat} {v : Value} {ys : List α} (h : OwnL w base e size enc v ys) (hg : w.grownBy w' (some b)) (hb : b < base) : OwnL w' base e size enc v ys := by
  refine ⟨h.1, ?_⟩
  rcases h.2 with hn | ⟨g, cap, cur, rfl, hbg, hgg, rest⟩
  · exact .inl hn
  · exact .inr ⟨g, cap, cur, rfl, hbg, (hg.block g (Array.getElem?_eq_some_iff.1 hgg).1 (by simp; omega)).trans hgg, rest⟩

set_option maxRecDepth 100000 in
set_option maxHeartbeats 8000000 in
theorem do_any (hko : KeysOk) (ao : Option Addr) (n cap : Nat) (l : List Dg) (a : Ac) (w : World) (hs : Sl w 12 cD ao n cap l) : Calls Try.prog 20 #[.slice ao n cap, eA a] w (DgsE w (doR l a)) := by
  have HS := Lib.hid hs
  have HKO := Lib.hid hko
  have HV := Lib.hid (fun W => valid_any a W)
  have HACT := Lib.hid (fun b n w => act_any b n l a w)
  have HBAD := Lib.hid (@doR_bad l a)
  have HERR := Lib.hid (@doR_err l a)
  have HOK := Lib.hid (@doR_ok l a)
  have HLEN := Lib.hid (fun h => @act_len l h a)
  clear hs hko
  generalize doR l a = r at *
  generalize actS l a = act at *
  obtain ⟨a0, a1, a2, a3, ⟨a4, a5, a6, a7⟩⟩ := a
  dsimp only [eA] at HV ⊢
  obtain ⟨W0, hW0, HB_W0, hZ, hn⟩ := boxes1 w [.int .i64 a0, .int .i64 a1, .int .i64 a2, .int .i64 a3, .int .i64 a4, .int .i64 a5, .int .i64 a6, .int .i64 a7] 37
  have H_n := Lib.hid hn
  clear hn hZ
  go_enter Try.func20, Try.ntmps20
  go_wp2_with fail
  refine (load_any _ _ _ l _ (HS.out.below HB_W0)).mono ?_
  clear hW0
  rintro e wa (⟨hst, b, rfl, hbn, hsto, hb⟩ | ⟨hst, rfl, hb⟩)
  case inr =>
    have HB_wa := after0 HB_W0 hb
    have HP := Lib.hid (HBAD.out (.inl hst))
    have H_m := Lib.hid (H_n.out.below hb)
    clear hst hb
    obtain ⟨q0, q1, q2, q3, q4, q5, q6, q7⟩ := H_m.out.c8
    go_wp2_with fail
    go_ret2
    exact ⟨none, 0, 0, by rw [HP.out]; rfl, by rw [HP.out]; exact Sl.nil, HB_wa⟩
  have HB_wa := after0 HB_W0 hb
  have hl50 := state_len hst
  have HST := Lib.hid hst
  have HSO := Lib.hid hsto
  have hbw : w.heap.size ≤ b := Nat.le_trans HB_W0.size hbn
  replace H_n := Lib.hid (H_n.out.below hb)
  clear hst hsto hb
  obtain ⟨q_n_0, q_n_1, q_n_2, q_n_3, q_n_4, q_n_5, q_n_6, q_n_7⟩ := H_n.out.c8
  go_wp2_with fail
  refine (HV.out _).mono ?_
  rintro e wb ⟨rfl, hb_wb⟩
  have HB_wb : Below w.heap.size w wb := by first | exact after0 HB_wa hb_wb | exact after1 HB_wa hb_wb | exact after2 HB_wa hb_wb | exact after3 HB_wa hb_wb | exact after4 HB_wa hb_wb | exact after5 HB_wa hb_wb
  try clear q_n_0 q_n_1 q_n_2 q_n_3 q_n_4 q_n_5 q_n_6 q_n_7
  have H_n := Lib.hid (Box.below (by first | exact H_n.out | exact H_n.out.alloc _ | exact (H_n.out.alloc _).alloc _ | exact ((H_n.out.alloc _).alloc _).alloc _) hb_wb)
  obtain ⟨q_n_0, q_n_1, q_n_2, q_n_3, q_n_4, q_n_5, q_n_6, q_n_7⟩ := H_n.out.c8
  cases h1 : validA ⟨a0, a1, a2, a3, ⟨a4, a5, a6, a7⟩⟩
  · have HP := Lib.hid (HBAD.out (.inr h1))
    clear h1
    go_wp2_with fail
    go_ret2
    exact ⟨none, 0, 0, by rw [HP.out]; rfl, by rw [HP.out]; exact Sl.nil, HB_wb⟩
  have HSB := Lib.hid (HSO.out.below hb_wb)
  have HV1 := Lib.hid h1
  clear h1
  go_wp2_with fail
  refine (HACT.out b l.length wb HSB.out (by omega) HV1.out).mono ?_
  rintro e wc ⟨rfl, hst, hg⟩
  have HB_wc : Below w.heap.size w wc := HB_wb.grown hg HB_wb.size (fun j hj => by cases hj; exact hbw)
  have HSC := Lib.hid hst
  have hal := HLEN.out HSB.out.1
  clear hst hg
  by_cases hq : act.2 = 0
  case neg =>
    have HP := Lib.hid (HERR.out HST.out HV1.out hq)
    have hq2 : (act.2 != 0) = true := bne_iff_ne.2 hq
    clear hq
    go_wp2_with fail
    go_ret2
    exact ⟨none, 0, 0, by rw [HP.out]; rfl, by rw [HP.out]; exact Sl.nil, HB_wc⟩
  have HP := Lib.hid (HOK.out HST.out HV1.out hq)
  obtain ⟨L2, q⟩ := act
  dsimp only at hq HSC hal HP
  subst hq
  clear HBAD HERR HOK
  go_wp2_with fail
  refine (list_any HKO.out b _ L2 _ HSC.out (by omega) (by omega)).mono ?_
  rintro e wd ⟨v, rfl, ho, hb_wd⟩
  have HB_wd : Below w.heap.size w wd := by first | exact after0 HB_wc hb_wd | exact after1 HB_wc hb_wd | exact after2 HB_wc hb_wd | exact after3 HB_wc hb_wd | exact after4 HB_wc hb_wd | exact after5 HB_wc hb_wd
  obtain ⟨so, sc, rfl, hsl⟩ := ho.sl cD_len
  have HSL := Lib.hid hsl
  clear ho hsl
  go_wp2_with fail
  go_ret2
  exact ⟨_, _, _, by rw [HP.out]; rfl, by rw [HP.out]; exact HSL.out, HB_wd⟩

theorem info_errno : (Try.prog.info? 25).map (fun i => (i.zero, i.size, i.bytes)) = some (some (.int .i64 0), 1, 8) := by kernel_rfl
def ReplE (w : World) (s : RS) (e : Ending) (w' : World) : Prop := ∃ a1 c1 a2 c2, e = .returned (.tuple #[.slice a1 s.L.length c1, .slice a2 s.came.length c2]) ∧ Sl w' 12 cD a1 s.L.length c1 s.L ∧ Sl w' 1 cI a2 s.came.length c2 s.came ∧ Below w.heap.size w w'


set_option maxRecDepth 100000 in
set_option maxHeartbeats 8000000 in
theorem replay_any (hko : KeysOk) (ao : Option Addr) (n cap : Nat) (l : List Ac) (w : World) (hs : Sl w 8 cA ao n cap l) (hl : l.length ≤ 50000) : Calls Try.prog 15 #[.slice ao n cap] w (ReplE w (replS l)) := by
  obtain rfl := hs.len
  have hcap := hs.max
  have hle := hs.le
  unfold maxLen at hcap
  have HS := Lib.hid hs
  have HKO := Lib.hid hko
  have hmm := @run_makeMap Try.prog
  obtain ⟨i0, hi, hz0, hz1, hz2⟩ := info_parts info_errno
  have HI := Lib.hid hi
  have HZ0 := Lib.hid hz0
  have HZ1 := Lib.hid hz1
  have HZ2 := Lib.hid hz2
  clear hs hko hi hz0 hz1 hz2
  go_enter Try.func15, Try.ntmps15
  go_wp2_with fail
  clear hmm
  go_loopw [5, 6, 13] (fun cm la i wr => ∃ k : Nat, k ≤ l.length ∧ i = .int .i64 k ∧ la = .int .i64 (replS (l.take k)).last ∧ Below w.heap.size w wr ∧ w.heap.size + 1 ≤ wr.heap.size ∧ Hid (OwnL wr (w.heap.size + 1) 25 1 cI cm (replS (l.take k)).came) ∧ Hid (StOf wr w.heap.size k (replS (l.take k)).L)) (fun _ _ i _ => l.length - (intOf i).toNat)
  case atStart => exact ⟨0, by omega, rfl, rfl, grew1 (Below.refl _ _), by simp, OwnL.nil, StOf.made w⟩
  case round =>
    obtain ⟨k, hk, rfl, rfl, HB_wr, hsz, HO, HST⟩ := hrel
    by_cases hlt : k < l.length
    · obtain ⟨b', off, rfl, hb, hrow⟩ := HS.out.get hlt
      obtain ⟨e_0, e_1, e_2, e_3, e_4, e_5, e_6, e_7⟩ := ((hrow k hlt).below HB_wr hb).c8
      have hcl := replS_came (l.take k)
      rw [List.length_take_of_le hk] at hcl
      have HN := Lib.hid (replS_succ hlt)
      have H1 := Lib.hid (@rstep_limit (replS (l.take k)) l[k])
      have H2 := Lib.hid (@rstep_arg (replS (l.take k)) l[k])
      have H3 := Lib.hid (@rstep_old (replS (l.take k)) l[k])
      have H4 := Lib.hid (@rstep_do (replS (l.take k)) l[k])
      have HVA := Lib.hid (fun W => valid_any l[k] W)
      have HACT := Lib.hid (fun b n w => act_any b n (replS (l.take k)).L l[k] w)
      clear hrow
      generalize replS (l.take k) = s at *
      generalize l[k] = a at *
      obtain ⟨L, la, cm⟩ := s
      dsimp only at hcl H1 H2 H3 H4 HO HST
      obtain ⟨a0, a1, a2, a3, ⟨a4, a5, a6, a7⟩⟩ := a
      dsimp only at e_0 e_1 e_2 e_3 e_4 e_5 e_6 e_7
      obtain ⟨W1, hW1, hB1, hZ1, hb1⟩ := boxes1 wr [.int .i64 a0, .int .i64 a1, .int .i64 a2, .int .i64 a3, .int .i64 a4, .int .i64 a5, .int .i64 a6, .int .i64 a7] 37
      have H_s := Lib.hid hb1
      have HB_W1 : Below w.heap.size w W1 := after0 HB_wr hB1
      have HST1 := Lib.hid (HST.out.below hB1)
      have HO1 := Lib.hid (HO.out.below hB1)
      have hsz1 : w.heap.size + 1 ≤ W1.heap.size := by omega
      clear hb1 hZ1 hB1 HST HO
      obtain ⟨q_s_0, q_s_1, q_s_2, q_s_3, q_s_4, q_s_5, q_s_6, q_s_7⟩ := H_s.out.c8
      by_cases h200 : 200 ≤ k
      · have HNX := Lib.hid (HN.out.trans (H1.out (by omega)))
        have h2i : 200 ≤ (k : Int) := by omega
        have HO9 := HO1
        clear H1 H2 H3 H4 HN HVA HACT
        have HOX := Lib.hid (HO9.out.alloc (.cells #[.int .i64 2] 25))
        have HSX : Hid (Sl (W1.alloc (.cells #[.int .i64 2] 25)) 1 cI (some ⟨W1.heap.size, 0, none⟩) 1 1 [2]) := Sl.one (x := 2) cI_len (Box.new W1 (cI 2) 25)
        have hszx : w.heap.size + 1 ≤ (W1.alloc (.cells #[.int .i64 2] 25)).heap.size := by simp; omega
        go_wp2_with (at_builtin; refine wpList_append_sl rfl _ _ 39 rfl (w.heap.size + 1) 25 i0 _ 1 8 Try.underlying39 HI.out HZ0.out HZ1.out HZ2.out rfl (by decide) cI_len cI_one _ cm rfl HOX.out (some ⟨W1.heap.size, 0, none⟩) 1 1 [2] rfl HSX.out (by unfold maxLen; omega) (by omega) hszx ?_)
        rintro v' w6 ho6 hg6 hgr6
        have HB_6 : Below w.heap.size w w6 := (grew1 HB_W1).trans (hg6 _ (by omega))
        have HO6 := Lib.hid ho6
        have HST6 := Lib.hid ((HST1.out.alloc (.cells #[.int .i64 2] 25)).low (hg6 _ (Nat.le_refl _)) (Nat.lt_succ_self _))
        have hs6 : w.heap.size + 1 ≤ w6.heap.size := Nat.le_trans hszx hgr6.size
        clear hg6 hgr6 ho6 HOX HSX hszx HO9
        go_wp2_with fail
        go_roundw
        case rel => exact ⟨k + 1, hlt, by go_num, by rw [HNX.out], HB_6, hs6, by rw [HNX.out]; exact HO6.out, by rw [HNX.out]; first | exact HST6.out | exact HST6.out.mono (Nat.le_succ _)⟩
        case measure => simp [intOf] <;> omega
      have h2i : (k : Int) < 200 := by omega
      have hc2 : ¬ 200 ≤ cm.length := by omega
      replace H2 := Lib.hid (H2.out hc2)
      replace H3 := Lib.hid (H3.out hc2)
      replace H4 := Lib.hid (H4.out hc2)
      clear h200 hc2 H1
      dsimp only [eA] at HVA
      go_wp2_with fail
      clear hW1 e_0 e_1 e_2 e_3 e_4 e_5 e_6 e_7
      refine (HVA.out _).mono ?_
      rintro e wa ⟨rfl, hb_wa⟩
      have HB_wa : Below w.heap.size w wa := by first | exact after0 HB_W1 hb_wa | exact after1 HB_W1 hb_wa | exact after2 HB_W1 hb_wa | exact after3 HB_W1 hb_wa | exact after4 HB_W1 hb_wa | exact after5 HB_W1 hb_wa
      try clear q_s_0 q_s_1 q_s_2 q_s_3 q_s_4 q_s_5 q_s_6 q_s_7
      have H_s := Lib.hid (Box.below (by first | exact H_s.out | exact H_s.out.alloc _ | exact (H_s.out.alloc _).alloc _ | exact ((H_s.out.alloc _).alloc _).alloc _) hb_wa)
      obtain ⟨q_s_0, q_s_1, q_s_2, q_s_3, q_s_4, q_s_5, q_s_6, q_s_7⟩ := H_s.out.c8
      have HST2 := Lib.hid (HST1.out.below hb_wa)
      have HO2 := Lib.hid (HO1.out.below hb_wa)
      have hsz2 := Nat.le_trans hsz1 hb_wa.size
      cases h1 : validA ⟨a0, a1, a2, a3, ⟨a4, a5, a6, a7⟩⟩
      · have HNX := Lib.hid (HN.out.trans (H2.out h1))
        have HO9 := HO2
        clear h1 H2 H3 H4 HN HVA HACT
        have HOX := Lib.hid (HO9.out.alloc (.cells #[.int .i64 1] 25))
        have HSX : Hid (Sl (wa.alloc (.cells #[.int .i64 1] 25)) 1 cI (some ⟨wa.heap.size, 0, none⟩) 1 1 [1]) := Sl.one (x := 1) cI_len (Box.new wa (cI 1) 25)
        have hszx : w.heap.size + 1 ≤ (wa.alloc (.cells #[.int .i64 1] 25)).heap.size := by simp; omega
        go_wp2_with (at_builtin; refine wpList_append_sl rfl _ _ 39 rfl (w.heap.size + 1) 25 i0 _ 1 8 Try.underlying39 HI.out HZ0.out HZ1.out HZ2.out rfl (by decide) cI_len cI_one _ cm rfl HOX.out (some ⟨wa.heap.size, 0, none⟩) 1 1 [1] rfl HSX.out (by unfold maxLen; omega) (by omega) hszx ?_)
        rintro v' w6 ho6 hg6 hgr6
        have HB_6 : Below w.heap.size w w6 := (grew1 HB_wa).trans (hg6 _ (by omega))
        have HO6 := Lib.hid ho6
        have HST6 := Lib.hid ((HST2.out.alloc (.cells #[.int .i64 1] 25)).low (hg6 _ (Nat.le_refl _)) (Nat.lt_succ_self _))
        have hs6 : w.heap.size + 1 ≤ w6.heap.size := Nat.le_trans hszx hgr6.size
        clear hg6 hgr6 ho6 HOX HSX hszx HO9
        go_wp2_with fail
        go_roundw
        case rel => exact ⟨k + 1, hlt, by go_num, by rw [HNX.out], HB_6, hs6, by rw [HNX.out]; exact HO6.out, by rw [HNX.out]; first | exact HST6.out | exact HST6.out.mono (Nat.le_succ _)⟩
        case measure => simp [intOf] <;> omega
      replace H3 := Lib.hid (H3.out h1)
      replace H4 := Lib.hid (H4.out h1)
      have HV1 := Lib.hid h1
      clear h1 H2
      by_cases hold : a3 < la
      · have HNX := Lib.hid (HN.out.trans (H3.out hold))
        have HO9 := HO2
        clear H3 H4 HN HVA HACT
        have HOX := Lib.hid (HO9.out.alloc (.cells #[.int .i64 13] 25))
        have HSX : Hid (Sl (wa.alloc (.cells #[.int .i64 13] 25)) 1 cI (some ⟨wa.heap.size, 0, none⟩) 1 1 [13]) := Sl.one (x := 13) cI_len (Box.new wa (cI 13) 25)
        have hszx : w.heap.size + 1 ≤ (wa.alloc (.cells #[.int .i64 13] 25)).heap.size := by simp; omega
        go_wp2_with (at_builtin; refine wpList_append_sl rfl _ _ 39 rfl (w.heap.size + 1) 25 i0 _ 1 8 Try.underlying39 HI.out HZ0.out HZ1.out HZ2.out rfl (by decide) cI_len cI_one _ cm rfl HOX.out (some ⟨wa.heap.size, 0, none⟩) 1 1 [13] rfl HSX.out (by unfold maxLen; omega) (by omega) hszx ?_)
        rintro v' w6 ho6 hg6 hgr6
        have HB_6 : Below w.heap.size w w6 := (grew1 HB_wa).trans (hg6 _ (by omega))
        have HO6 := Lib.hid ho6
        have HST6 := Lib.hid ((HST2.out.alloc (.cells #[.int .i64 13] 25)).low (hg6 _ (Nat.le_refl _)) (Nat.lt_succ_self _))
        have hs6 : w.heap.size + 1 ≤ w6.heap.size := Nat.le_trans hszx hgr6.size
        clear hg6 hgr6 ho6 HOX HSX hszx HO9
        go_wp2_with fail
        go_roundw
        case rel => exact ⟨k + 1, hlt, by go_num, by rw [HNX.out], HB_6, hs6, by rw [HNX.out]; exact HO6.out, by rw [HNX.out]; first | exact HST6.out | exact HST6.out.mono (Nat.le_succ _)⟩
        case measure => simp [intOf] <;> omega
      replace hold := Int.not_lt.1 hold
      have HNX := Lib.hid (HN.out.trans (H4.out hold))
      try dsimp only at HNX
      clear H3 H4 HN HVA
      go_wp2_with fail
      refine (HACT.out w.heap.size k wa HST2.out (by omega) HV1.out).mono ?_
      rintro e wb ⟨rfl, hst, hg⟩
      have HB_wb : Below w.heap.size w wb := HB_wa.grown hg HB_wa.size (fun j hj => by cases hj; exact Nat.le_refl _)
      have HST3 := Lib.hid hst
      have HO9 := Lib.hid (own_past HO2.out hg (Nat.lt_succ_self _))
      have hsz3 := Nat.le_trans hsz2 hg.size
      clear hst hg HACT HST2 HO2
      generalize actS L ⟨a0, a1, a2, a3, ⟨a4, a5, a6, a7⟩⟩ = act at *
      obtain ⟨L2, q⟩ := act
      dsimp only at HST3 HNX
      have HOX := Lib.hid (HO9.out.alloc (.cells #[.int .i64 q] 25))
      have HSX : Hid (Sl (wb.alloc (.cells #[.int .i64 q] 25)) 1 cI (some ⟨wb.heap.size, 0, none⟩) 1 1 [q]) := Sl.one (x := q) cI_len (Box.new wb (cI q) 25)
      have hszx : w.heap.size + 1 ≤ (wb.alloc (.cells #[.int .i64 q] 25)).heap.size := by simp; omega
      go_wp2_with (at_builtin; refine wpList_append_sl rfl _ _ 39 rfl (w.heap.size + 1) 25 i0 _ 1 8 Try.underlying39 HI.out HZ0.out HZ1.out HZ2.out rfl (by decide) cI_len cI_one _ cm rfl HOX.out (some ⟨wb.heap.size, 0, none⟩) 1 1 [q] rfl HSX.out (by unfold maxLen; omega) (by omega) hszx ?_)
      rintro v' w6 ho6 hg6 hgr6
      have HB_6 : Below w.heap.size w w6 := (grew1 HB_wb).trans (hg6 _ (by omega))
      have HO6 := Lib.hid ho6
      have HST6 := Lib.hid ((HST3.out.alloc (.cells #[.int .i64 q] 25)).low (hg6 _ (Nat.le_refl _)) (Nat.lt_succ_self _))
      have hs6 : w.heap.size + 1 ≤ w6.heap.size := Nat.le_trans hszx hgr6.size
      clear hg6 hgr6 ho6 HOX HSX hszx HO9
      go_wp2_with fail
      go_roundw
      case rel => exact ⟨k + 1, hlt, by go_num, by rw [HNX.out], HB_6, hs6, by rw [HNX.out]; exact HO6.out, by rw [HNX.out]; first | exact HST6.out | exact HST6.out.mono (Nat.le_succ _)⟩
      case measure => simp [intOf] <;> omega
    · obtain rfl : k = l.length := by omega
      rw [List.take_length] at HO HST
      have hLl := (replS_sor l).2
      generalize replS l = s at *
      obtain ⟨L, la, cm⟩ := s
      dsimp only at HO HST hLl
      go_wp2_with fail
      refine (list_any HKO.out w.heap.size _ L _ HST.out (by omega) (by omega)).mono ?_
      rintro e wa ⟨v, rfl, ho, hb_wa⟩
      have HB_wa : Below w.heap.size w wa := by first | exact after0 HB_wr hb_wa | exact after1 HB_wr hb_wa | exact after2 HB_wr hb_wa | exact after3 HB_wr hb_wa | exact after4 HB_wr hb_wa | exact after5 HB_wr hb_wa
      obtain ⟨so, sc, rfl, hsl⟩ := ho.sl cD_len
      obtain ⟨so2, sc2, rfl, hsl2⟩ := (HO.out.below hb_wa).sl cI_len
      have HSL := Lib.hid hsl
      have HSL2 := Lib.hid hsl2
      clear ho hsl hsl2
      go_wp2_with fail
      go_ret2
      exact ⟨_, _, _, _, rfl, HSL.out, HSL2.out, HB_wa⟩
end Go.Proofs.Ytmbnhlihcnbebaa
