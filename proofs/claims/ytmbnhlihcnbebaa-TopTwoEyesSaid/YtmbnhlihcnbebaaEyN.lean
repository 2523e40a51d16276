/-
  Walks of the layer 'eyes': Eyes.
-/
import Derived.Test.YtmbnhlihcnbebaaEyM
set_option linter.unusedVariables false
namespace Ey
theorem eyesS_snoc (x : Int) (l : List Ac) (a : Ac) : eyesS x (l ++ [a]) = estep x (eyesS x l) a := by unfold eyesS; rw [List.foldl_append]; rfl
theorem eyesS_L (x : Int) (l : List Ac) : (eyesS x l).L = stS l := by
  unfold eyesS stS
  suffices ∀ s : ES, (l.foldl (estep x) s).L = l.foldl (fun L a => (actS L a).1) s.L from this _
  induction l with
  | nil => intro s; rfl
  | cons a l ih =>
    intro s
    rw [List.foldl_cons, List.foldl_cons, ih]
    congr 1
    unfold estep
    split <;> rfl
theorem eyesR_bad {l : List Ac} {x t : Int} (h : validL l = false ∨ timeB t = false ∨ numB x = false) : eyesR l x t = (0, 0, 1) := by unfold eyesR; rw [if_neg]; rcases h with h | h | h <;> simp [h]
theorem eyesR_none {l : List Ac} {x t : Int} (h1 : validL l = true) (h2 : timeB t = true) (h3 : numB x = true) (h4 : (gt (eyesS x (untilL l t)).L x).told = false) : eyesR l x t = (0, 0, 4) := by unfold eyesR; rw [if_pos (by simp [h1, h2, h3]), if_neg (by simp [h4])]
theorem eyesR_ok {l : List Ac} {x t : Int} (h1 : validL l = true) (h2 : timeB t = true) (h3 : numB x = true) (h4 : (gt (eyesS x (untilL l t)).L x).told = true) : eyesR l x t = ((eyesS x (untilL l t)).one, (eyesS x (untilL l t)).two, 0) := by unfold eyesR; rw [if_pos (by simp [h1, h2, h3]), if_pos h4]
theorem estep_yes {x : Int} {s : ES} {a : Ac} (h : (actS s.L a).2 = 0 ∧ a.kind = 3 ∧ a.danger = x) : estep x s a = ⟨(actS s.L a).1, (gt s.L a.danger).prop, a.person⟩ := by unfold estep; rw [if_pos h]
theorem estep_no {x : Int} {s : ES} {a : Ac} (h : ¬ ((actS s.L a).2 = 0 ∧ a.kind = 3 ∧ a.danger = x)) : estep x s a = ⟨(actS s.L a).1, s.one, s.two⟩ := by unfold estep; rw [if_neg h]
end Ey
namespace Go.Proofs.Ytmbnhlihcnbebaa
open Go Go.RowKit Ey Sk Go.Sort Go.Shelf
attribute [local go_sem] Oper.semAt_some
abbrev eT (p : Int × Int × Int) : Value := .tuple #[.int .i64 p.1, .int .i64 p.2.1, .int .i64 p.2.2]

set_option maxRecDepth 100000 in
set_option maxHeartbeats 8000000 in
theorem eyes_any (ao : Option Addr) (n cap : Nat) (l : List Ac) (x t : Int) (w : World) (hs : Sl w 8 cA ao n cap l) : Calls Try.prog 14 #[.slice ao n cap, .int .i64 x, .int .i64 t] w (Ret w (eT (eyesR l x t))) := by
  obtain rfl := hs.len
  have hcap := hs.max
  have hle := hs.le
  unfold maxLen at hcap
  have HS := Lib.hid hs
  have HBAD := Lib.hid (@eyesR_bad l x t)
  have HNO := Lib.hid (@eyesR_none l x t)
  have HOK := Lib.hid (@eyesR_ok l x t)
  have hmm := @run_makeMap Try.prog
  clear hs
  generalize eyesR l x t = p at *
  obtain ⟨W0, hW0, HB_W0, hZ, hn⟩ := boxes1 w [.int .i64 x] 3
  have H_x := Lib.hid hn
  clear hn
  have q_x_0 := H_x.out.c1
  refine (callsIn_wide (n := 10)).1 (callsIn_of_wp_marks Try.func14 rfl trivial (wpIn_wide.2 ?_) rfl)
  simp only [Try.ntmps14, List.size_toArray, List.length_cons, List.length_nil, Nat.reduceAdd, Nat.reduceSub, Array.replicate_succ, Array.replicate_zero, List.push_toArray, List.append_toArray, List.nil_append, List.cons_append]
  go_wp2_with fail
  refine (Valid_any _ _ _ l _ (HS.out.below HB_W0)).mono ?_
  rintro e wa ⟨rfl, hb_wa⟩
  have HB_wa : Below w.heap.size w wa := by first | exact after0 HB_W0 hb_wa | exact after1 HB_W0 hb_wa | exact after2 HB_W0 hb_wa | exact after3 HB_W0 hb_wa | exact after4 HB_W0 hb_wa | exact after5 HB_W0 hb_wa
  try clear q_x_0
  have H_x := Lib.hid (Box.below (by first | exact H_x.out | exact H_x.out.alloc _ | exact (H_x.out.alloc _).alloc _ | exact ((H_x.out.alloc _).alloc _).alloc _) hb_wa)
  have q_x_0 := H_x.out.c1
  clear hW0
  cases h1 : validL l
  · have HP := Lib.hid (HBAD.out (.inl h1))
    clear h1
    go_wp2_with fail
    refine marks_ret0 (v := .tuple #[.int .i64 0, .int .i64 0, .int .i64 1]) (by simp [results, Try.results14, go_sem]) rfl ?_
    exact ⟨by rw [HP.out], HB_wa⟩
  have HV := Lib.hid (validL_iff.1 h1)
  by_cases ht1 : t < 0
  · have HP := Lib.hid (HBAD.out (.inr (.inl (decide_eq_false (by omega)))))
    clear h1
    go_wp2_with fail
    refine marks_ret0 (v := .tuple #[.int .i64 0, .int .i64 0, .int .i64 1]) (by simp [results, Try.results14, go_sem]) rfl ?_
    exact ⟨by rw [HP.out], HB_wa⟩
  by_cases ht2 : 10000000 < t
  · have HP := Lib.hid (HBAD.out (.inr (.inl (decide_eq_false (by omega)))))
    replace ht1 := Int.not_lt.1 ht1
    clear h1
    go_wp2_with fail
    refine marks_ret0 (v := .tuple #[.int .i64 0, .int .i64 0, .int .i64 1]) (by simp [results, Try.results14, go_sem]) rfl ?_
    exact ⟨by rw [HP.out], HB_wa⟩
  have htb : timeB t = true := decide_eq_true (by omega)
  have HOKt := Lib.hid htb
  have H1 := Lib.hid h1
  replace ht1 := Int.not_lt.1 ht1
  replace ht2 := Int.not_lt.1 ht2
  clear h1 htb
  go_wp2_with fail
  refine (number_any x _).mono ?_
  rintro e wb ⟨rfl, hb_wb⟩
  have HB_wb : Below w.heap.size w wb := by first | exact after0 HB_wa hb_wb | exact after1 HB_wa hb_wb | exact after2 HB_wa hb_wb | exact after3 HB_wa hb_wb | exact after4 HB_wa hb_wb | exact after5 HB_wa hb_wb
  try clear q_x_0
  have H_x := Lib.hid (Box.below (by first | exact H_x.out | exact H_x.out.alloc _ | exact (H_x.out.alloc _).alloc _ | exact ((H_x.out.alloc _).alloc _).alloc _) hb_wb)
  have q_x_0 := H_x.out.c1
  cases hx : numB x
  · have HP := Lib.hid (HBAD.out (.inr (.inr hx)))
    clear hx
    go_wp2_with fail
    refine marks_ret0 (v := .tuple #[.int .i64 0, .int .i64 0, .int .i64 1]) (by simp [results, Try.results14, go_sem]) rfl ?_
    exact ⟨by rw [HP.out], HB_wb⟩
  have HNO2 := Lib.hid (HNO.out H1.out HOKt.out hx)
  have HOK2 := Lib.hid (HOK.out H1.out HOKt.out hx)
  have HX64 := Lib.hid (I64.num hx)
  clear hx HBAD HNO HOK H1 HOKt
  obtain ⟨M, hM⟩ : ∃ M, wb.heap.size = M := ⟨_, rfl⟩
  obtain ⟨W2, hW2⟩ : ∃ W2, (((wb.alloc (.map #[] 0)).alloc (.cells #[.map (some M)] 70)).alloc (.cells #[.int .i64 0] 3)).alloc (.cells #[.int .i64 0] 3) = W2 := ⟨_, rfl⟩
  have hB2 : Below wb.heap.size wb W2 := hW2 ▸ grew4 (Below.refl _ _)
  have HB_W2 : Below w.heap.size w W2 := after0 HB_wb hB2
  have hZ2 : W2.heap.size = M + 4 := by rw [← hW2]; simp; omega
  have hst2 : StOf W2 M 0 [] := by rw [← hW2, ← hM]; exact (((StOf.made wb).alloc _).alloc _).alloc _
  have hr2 : Box W2 (M + 1) 70 [.map (some M)] ∧ Box W2 (M + 1 + 1) 3 [.int .i64 0] ∧ Box W2 (M + 1 + 1 + 1) 3 [.int .i64 0] := by
    have h := ((Box.new (wb.alloc (.map #[] 0)) [.map (some M)] 70).alloc (.cells #[.int .i64 0] 3)).alloc (.cells #[.int .i64 0] 3)
    have h2 := (Box.new ((wb.alloc (.map #[] 0)).alloc (.cells #[.map (some M)] 70)) [.int .i64 0] 3).alloc (.cells #[.int .i64 0] 3)
    have h3 := Box.new (((wb.alloc (.map #[] 0)).alloc (.cells #[.map (some M)] 70)).alloc (.cells #[.int .i64 0] 3)) [.int .i64 0] 3
    rw [show (wb.alloc (.map #[] 0)).heap.size = M + 1 by simp; omega] at h
    rw [show ((wb.alloc (.map #[] 0)).alloc (.cells #[.map (some M)] 70)).heap.size = M + 1 + 1 by simp; omega] at h2
    rw [show (((wb.alloc (.map #[] 0)).alloc (.cells #[.map (some M)] 70)).alloc (.cells #[.int .i64 0] 3)).heap.size = M + 1 + 1 + 1 by simp; omega] at h3
    rw [← hW2]
    exact ⟨h, h2, h3⟩
  obtain ⟨hr2a, hr2b, hr2c⟩ := hr2
  have hwM : w.heap.size + 1 ≤ M := by have := hb_wa.size; have := hb_wb.size; omega
  have hx2 := H_x.out.below hB2
  obtain ⟨W3, hW3⟩ : ∃ W3, (W2.setCell ⟨M + 1 + 1, 0, none⟩ (.int .i64 0)).setCell ⟨M + 1 + 1 + 1, 0, none⟩ (.int .i64 0) = W3 := ⟨_, rfl⟩
  have HB_W3 : Below w.heap.size w W3 := hW3 ▸ below_set (below_set HB_W2 (by omega) _ _) (by omega) _ _
  have hZ3 : W3.heap.size = M + 4 := by rw [← hW3]; simp [hZ2]
  have HST := Lib.hid (show StOf W3 M 0 [] from hW3 ▸ (hst2.setCell (by simp; omega) _).setCell (by simp; omega) _)
  have HRM := Lib.hid (show Box W3 (M + 1) 70 [.map (some M)] from hW3 ▸ (hr2a.other (by omega)).other (by omega))
  have HR1 := Lib.hid (show Box W3 (M + 1 + 1) 3 [.int .i64 0] from hW3 ▸ (hr2b.set 0 (.int .i64 0)).other (by omega))
  have HR2 := Lib.hid (show Box W3 (M + 1 + 1 + 1) 3 [.int .i64 0] from hW3 ▸ (hr2c.other (by omega)).set 0 (.int .i64 0))
  have HRX := Lib.hid (show Box W3 w.heap.size 3 [.int .i64 x] from hW3 ▸ (hx2.other (by omega)).other (by omega))
  have c2 := hr2b.c1
  have c3 := hr2c.c1
  have f2 := hr2b.frozen
  have f3 := hr2c.frozen
  clear hB2 q_x_0 hst2 hr2a hr2b hr2c hx2
  go_wp2_with fail
  clear hmm c2 c3 f2 f3 hW3 hW2 hM
  refine (until_mk ao l.length cap t _).mono ?_
  rintro e we ⟨rfl, hb_we, hsz, hx1, hx2⟩
  have HB_we := after0 HB_W3 hb_we
  replace HST := Lib.hid (HST.out.below hb_we)
  replace HRM := Lib.hid (HRM.out.below hb_we)
  replace HR1 := Lib.hid (HR1.out.below hb_we)
  replace HR2 := Lib.hid (HR2.out.below hb_we)
  replace HRX := Lib.hid (HRX.out.below hb_we)
  have hsz2 : we.heap.size = M + 6 := by omega
  have HI1 := Lib.hid (show Box we (M + 4) 22 [.slice ao l.length cap] from hZ3 ▸ hx1)
  have HI2 := Lib.hid (show Box we (M + 5) 3 [.int .i64 t] from (show M + 5 = W3.heap.size + 1 by omega) ▸ hx2)
  clear hx1 hx2 hb_we
  have HSEQ := Lib.hid (show SeqAll Fence.wide 9 Try.prog 63 #[.pointer (some ⟨M + 4, 0, none⟩), .pointer (some ⟨M + 4 + 1, 0, none⟩)] eXA (fun a => validA a = true) (KpR M (M + 4)) (fun xs => xs = untilL l t) 200 we from
    fun lid J W hW hJ hY h0 => until1_wide (KpR M (M + 4)) t lid (M + 4) (M + 4 + 1) 22 3 M (fun _ _ h => h.low) (fun _ _ h hb => h.box hb (by omega)) ao l.length cap l J W hJ hY (HI1.out.below hW) (HI2.out.below hW)
      (fun W' hW' => HS.out.below ((after0 HB_we hW).trans (hW'.mono (by omega)))) HV.out.1 HV.out.2.1 (by have := hW.size; omega) h0)
  have hl200 := HV.out.1
  go_wp2_with fail
  refine (wpIn_wide (n := 10)).1 ?_
  refine wpIn_rangeFunc_alx rfl (by omega) (gf := 63) (lb := #[.pointer (some ⟨M + 4, 0, none⟩), .pointer (some ⟨M + 4 + 1, 0, none⟩)]) rfl trivial (enters_of Try.func63 (by kernel_rfl) rfl) HSEQ.out
    KpR.trans (fun W l' o o' hl h hc hw => KpR.put W l' o o' (by omega) h hc hw) (Below.refl _ _) (fun _ => rfl)
    (fun pre W => Box W (M + 1) 70 [.map (some M)] ∧ Box W (M + 1 + 1) 3 [.int .i64 (eyesS x pre).one] ∧ Box W (M + 1 + 1 + 1) 3 [.int .i64 (eyesS x pre).two] ∧ Box W w.heap.size 3 [.int .i64 x] ∧ StOf W M pre.length (eyesS x pre).L ∧ Below w.heap.size w W ∧ we.heap.size ≤ W.heap.size)
    (fun s A B row hs hg hr => by
      obtain ⟨b1, b2, b3, b4, s1, hb, hz⟩ := hs
      refine ⟨b1.grown hg (fun e => by have := hr _ e.symm; omega), b2.grown hg (fun e => by have := hr _ e.symm; omega), b3.grown hg (fun e => by have := hr _ e.symm; omega), b4.grown hg (fun e => by have := hr _ e.symm; omega), s1.kept hg (fun e => by have := hr _ e.symm; omega), hb.grown hg hb.size (fun j hj => by have := hr _ hj; have := HB_we.size; omega), Nat.le_trans hz hg.size⟩)
    ⟨HRM.out, HR1.out, HR2.out, HRX.out, HST.out, HB_we, Nat.le_refl _⟩
    (fun a a' W => ∃ R, we.heap.size + 2 ≤ R ∧ Box W R 37 (cA a) ∧ a' = { tmps := #[.slice ao l.length cap, .int .i64 x, .int .i64 t, undef, .pointer (some ⟨w.heap.size, 0, none⟩), undef, .int .i64 0, .int .i64 0, .int .i64 0, .pointer (some ⟨M + 1, 0, none⟩), .pointer (some ⟨M + 1 + 1, 0, none⟩), .pointer (some ⟨M + 1 + 1 + 1, 0, none⟩), .pointer (some ⟨R, 0, none⟩), undef, undef, .slice ao l.length cap, .bool true, .bool false, .bool false, .int .i64 t, .bool (decide (t < 0)), .bool (decide (t < 0)), .bool (decide (t < 0)), .int .i64 t, .bool (decide (10000000 < t)), .bool (decide (t < 0) || decide (10000000 < t)), .bool (decide (t < 0) || decide (10000000 < t)), .int .i64 x, .bool true, .bool false, .bool (decide (t < 0) || decide (10000000 < t)), .map (some M), .slice ao l.length cap, .int .i64 t, .func (.func 63) #[] #[.pointer (some ⟨M + 4, 0, none⟩), .pointer (some ⟨M + 4 + 1, 0, none⟩)], eA a, undef, undef, undef, undef, undef, undef, undef, undef, undef, undef, undef, undef, undef, undef, undef, undef, undef, undef, undef, undef, undef, undef, undef, undef, undef, undef, undef, undef, undef, undef, undef], defers := [] })
    (fun a a' W o' h => by
      obtain ⟨R, h1, h2, h3⟩ := h
      exact ⟨R, h1, h2.grown (grownBy_putObj' W (we.heap.size + 1) o') (fun e => by have := Option.some.inj e; omega), h3⟩)
    ?assign ?body ?done
  case assign =>
    rintro l' pre a W K ⟨b1, b2, b3, b4, s1, hb, hz⟩ hsz hK
    have HKK := Lib.hid hK
    have HB1 := Lib.hid b1
    have HB2 := Lib.hid b2
    have HB3 := Lib.hid b3
    have HB4 := Lib.hid b4
    have HS1 := Lib.hid s1
    have HHB := Lib.hid hb
    clear hK b1 b2 b3 b4 s1 hb
    dsimp only [eXA]
    gi_wp2
    have hbl : Below W.heap.size W (W.alloc (.cells (cA a).toArray 37)) := grew1 (Below.refl _ _)
    have hsM := HS1.out.lt
    refine HKK.out _ _ ((KeepsOthers.alloc _ _).from _) (KpR.of_grown (row := none) (grown_below hbl) (fun r e => by cases e) (by omega)) ⟨HB1.out.alloc _, HB2.out.alloc _, HB3.out.alloc _, HB4.out.alloc _, HS1.out.alloc _, grew1 HHB.out, Nat.le_trans hz hbl.size⟩ ⟨W.heap.size, hsz, Box.new W (cA a) _, rfl⟩
  case body =>
    rintro l' pre a a' W hpx ⟨b1, b2, b3, b4, s1, hb, hz⟩ hlt ⟨R, hRw, hR, rfl⟩
    have HBM := Lib.hid b1
    have HB1 := Lib.hid b2
    have HB2 := Lib.hid b3
    have HBX := Lib.hid b4
    have HS1 := Lib.hid s1
    have HHB := Lib.hid hb
    have HBR := Lib.hid hR
    have HACT := Lib.hid (act_any M pre.length (eyesS x pre).L a W s1 (by omega) hpx)
    have hlk := s1.look (valid_act hpx).1
    have HSN := Lib.hid (eyesS_snoc x pre a)
    have HYES := Lib.hid (@estep_yes x (eyesS x pre) a)
    have HNOS := Lib.hid (@estep_no x (eyesS x pre) a)
    have hff : ∀ (d : Dg) (W : World), (Instr.field 33 (eD d) 3).run Try.prog W = .ok (.int .i64 d.prop) W := fun d W => by kernel_rfl
    have hff1 := hff (gt (eyesS x pre).L a.danger)
    have HLK := Lib.hid hlk
    have r0 := HBM.out.c1
    clear b1 b2 b3 b4 s1 hb hR hpx hff hlk
    generalize eyesS x pre = s at *
    generalize actS s.L a = act at *
    generalize gt s.L a.danger = d at *
    obtain ⟨L, one, two⟩ := s
    dsimp only at HBM HB1 HB2 HS1 HACT HYES HNOS HLK hff1
    obtain ⟨a0, a1, a2, a3, ⟨a4, a5, a6, a7⟩⟩ := a
    obtain ⟨q0, q1, q2, q3, q4, q5, q6, q7⟩ := HBR.out.c8
    have hlk := HLK.out
    dsimp only [eA] at HACT hlk HYES HNOS ⊢
    gi_wp2_with fail
    refine ⟨trivial, (((callsIn_wide (n := 7)).2 HACT.out).inRound l').mono ?_⟩
    rintro e w2 ⟨rfl, hst, hg⟩
    have HST2 := Lib.hid hst
    have HG := Lib.hid hg
    have HBR2 := Lib.hid (HBR.out.grown hg (fun e => by have := Option.some.inj e; omega))
    have HBX2 := Lib.hid (HBX.out.grown hg (fun e => by have := Option.some.inj e; omega))
    have rx := HBX2.out.c1
    clear hst hg q0 q1 q2 q3 q4 q5 q6 q7 hlk hff1 r0
    obtain ⟨q0, q1, q2, q3, q4, q5, q6, q7⟩ := HBR2.out.c8
    by_cases hq : act.2 = 0
    case neg =>
      have HNO3 := Lib.hid (HNOS.out (fun h => hq h.1))
      have hq2 : (act.2 == 0) = false := beq_eq_false_iff_ne.2 hq
      clear hq HYES HNOS
      gi_wp2_with fail
      gi_wp2
      have hbl := HS1.out.lt
      exact ⟨KeepsFrom.of_grownBy HG.out (fun j e => by cases e; omega), KpR.of_grown HG.out (fun j e => by cases e; omega) (by omega), by dsimp only; rw [HSN.out, HNO3.out]; exact ⟨HBM.out.grown HG.out (fun e => by have := Option.some.inj e; omega), HB1.out.grown HG.out (fun e => by have := Option.some.inj e; omega), HB2.out.grown HG.out (fun e => by have := Option.some.inj e; omega), HBX.out.grown HG.out (fun e => by have := Option.some.inj e; omega), (by rw [List.length_append]; exact HST2.out), HHB.out.grown HG.out HHB.out.size (fun j e => by cases e; omega), Nat.le_trans hz HG.out.size⟩⟩
    by_cases hk : a0 = 3
    case neg =>
      have HNO3 := Lib.hid (HNOS.out (fun h => hk h.2.1))
      have hq2 : (a0 == 3) = false := beq_eq_false_iff_ne.2 hk
      clear hk HYES HNOS
      gi_wp2_with fail
      gi_wp2
      have hbl := HS1.out.lt
      exact ⟨KeepsFrom.of_grownBy HG.out (fun j e => by cases e; omega), KpR.of_grown HG.out (fun j e => by cases e; omega) (by omega), by dsimp only; rw [HSN.out, HNO3.out]; exact ⟨HBM.out.grown HG.out (fun e => by have := Option.some.inj e; omega), HB1.out.grown HG.out (fun e => by have := Option.some.inj e; omega), HB2.out.grown HG.out (fun e => by have := Option.some.inj e; omega), HBX.out.grown HG.out (fun e => by have := Option.some.inj e; omega), (by rw [List.length_append]; exact HST2.out), HHB.out.grown HG.out HHB.out.size (fun j e => by cases e; omega), Nat.le_trans hz HG.out.size⟩⟩
    by_cases hd : a1 = x
    case neg =>
      have HNO3 := Lib.hid (HNOS.out (fun h => hd h.2.2))
      have hq2 : (a1 == x) = false := beq_eq_false_iff_ne.2 hd
      subst hk
      clear hd HYES HNOS
      gi_wp2_with fail
      gi_wp2
      have hbl := HS1.out.lt
      exact ⟨KeepsFrom.of_grownBy HG.out (fun j e => by cases e; omega), KpR.of_grown HG.out (fun j e => by cases e; omega) (by omega), by dsimp only; rw [HSN.out, HNO3.out]; exact ⟨HBM.out.grown HG.out (fun e => by have := Option.some.inj e; omega), HB1.out.grown HG.out (fun e => by have := Option.some.inj e; omega), HB2.out.grown HG.out (fun e => by have := Option.some.inj e; omega), HBX.out.grown HG.out (fun e => by have := Option.some.inj e; omega), (by rw [List.length_append]; exact HST2.out), HHB.out.grown HG.out HHB.out.size (fun j e => by cases e; omega), Nat.le_trans hz HG.out.size⟩⟩
    have HYE3 := Lib.hid (HYES.out ⟨hq, hk, hd⟩)
    subst hk
    subst hd
    clear HYES HNOS
    gi_wp2_with fail
    clear q0 q1 q2 q3 q4 q5 q6 q7 rx
    obtain ⟨V, hV⟩ : ∃ V, w2.drew = V := ⟨_, rfl⟩
    have G2 : w2.grownBy V none := hV ▸ ⟨rfl, rfl, rfl, Nat.le_refl _, fun _ _ _ => rfl⟩
    have HAV := Lib.hid (show AA R ⟨3, a1, a2, a3, ⟨a4, a5, a6, a7⟩⟩ V from Box.grown HBR2.out G2 (by simp))
    have hne1 : some (M + 1) ≠ some M := fun e => by have := Option.some.inj e; omega
    have hb1V := (HB1.out.grown HG.out (fun e => by have := Option.some.inj e; omega)).grown G2 (by simp)
    have hb2V := (HB2.out.grown HG.out (fun e => by have := Option.some.inj e; omega)).grown G2 (by simp)
    have G3 := grown_setCell V (M + 1 + 1) 0 (.int .i64 d.prop)
    have G4 := grown_setCell (V.setCell ⟨M + 1 + 1, 0, none⟩ (.int .i64 d.prop)) (M + 1 + 1 + 1) 0 (.int .i64 a2)
    have HA1 := Lib.hid (show AA R ⟨3, a1, a2, a3, ⟨a4, a5, a6, a7⟩⟩ (V.setCell ⟨M + 1 + 1, 0, none⟩ (.int .i64 d.prop)) from Box.grown HAV.out G3 (fun e => by have := Option.some.inj e; omega))
    have HA2 := Lib.hid (show AA R ⟨3, a1, a2, a3, ⟨a4, a5, a6, a7⟩⟩ ((V.setCell ⟨M + 1 + 1, 0, none⟩ (.int .i64 d.prop)).setCell ⟨M + 1 + 1 + 1, 0, none⟩ (.int .i64 a2)) from Box.grown HA1.out G4 (fun e => by have := Option.some.inj e; omega))
    have y_n : Nonempty (Wc (AA R ⟨3, a1, a2, a3, ⟨a4, a5, a6, a7⟩⟩)) := ⟨⟨V, HAV.out⟩⟩
    have y_2 := fun p : Wc (AA R ⟨3, a1, a2, a3, ⟨a4, a5, a6, a7⟩⟩) => (Box.c8 p.h).2.2.1
    have HV1 := Lib.hid hb1V
    have HV2 := Lib.hid hb2V
    have HG2 := Lib.hid G2
    have HG3 := Lib.hid G3
    have HG4 := Lib.hid G4
    clear hb1V hb2V G2 G3 G4 hne1
    refine wpIn_region_mix (C := fun w' => ∃ p : Wc (AA R ⟨3, a1, a2, a3, ⟨a4, a5, a6, a7⟩⟩), w' = p.w) [(0, 0), (1, 0), (2, 0), (3, 1), (4, 1)] 5 (wide_round_fn l') (by kernel_rfl) (by kernel_rfl) (by kernel_rfl) ⟨⟨_, (hV ▸ HAV.out : AA R ⟨3, a1, a2, a3, ⟨a4, a5, a6, a7⟩⟩ w2.drew)⟩, rfl⟩ ?_
    repeat (refine imix_q rfl rfl ?_; first | go_big_quiet_skip | (go_big_quiet_want; go_big_quiet_op; go_big_quiet_on); refine wpQuiet_nil ?_)
    rw [show { heap := w2.heap, tape := w2.tape, drawn := w2.drawn + 1, os := w2.os, output := w2.output } = V from hV]
    clear hV y_n y_2
    have c1 := HV1.out.c1
    have f1 := HV1.out.frozen
    have c2 := HV2.out.c1
    have f2 := HV2.out.frozen
    refine imix_e rfl ?_
    gi_wp2_with fail
    refine MixPost.intro ⟨⟨_, HA1.out⟩, rfl⟩ ?_
    refine imix_e rfl ?_
    gi_wp2_with fail
    refine MixPost.intro ⟨⟨_, HA2.out⟩, rfl⟩ ?_
    refine imix_nil ?_
    simp only [List.drop_succ_cons, List.drop_zero]
    gi_wp2
    try refine NoPanic.normal ?_
    try gi_wp2
    have hbl := HS1.out.lt
    have hbs := HG.out.size
    have hbs2 := HG2.out.size
    refine ⟨(((KeepsFrom.of_grownBy HG.out (fun j e => by cases e; omega)).trans (KeepsFrom.of_grownBy HG2.out (fun j e => by cases e))).trans (KeepsFrom.of_grownBy HG3.out (fun j e => by cases e; omega))).trans (KeepsFrom.of_grownBy HG4.out (fun j e => by cases e; omega)),
      (((KpR.of_grown HG.out (fun j e => by cases e; omega) (by omega)).trans (KpR.of_grown HG2.out (fun j e => by cases e) (by omega))).trans (KpR.of_grown HG3.out (fun j e => by cases e; omega) (by omega))).trans (KpR.of_grown HG4.out (fun j e => by cases e; omega) (by have := HG3.out.size; omega)), ?_⟩
    dsimp only
    rw [HSN.out, HYE3.out]
    refine ⟨(((HBM.out.grown HG.out (fun e => by have := Option.some.inj e; omega)).grown HG2.out (by simp)).grown HG3.out (fun e => by have := Option.some.inj e; omega)).grown HG4.out (fun e => by have := Option.some.inj e; omega),
      (HV1.out.set 0 (.int .i64 d.prop)).grown HG4.out (fun e => by have := Option.some.inj e; omega), (HV2.out.grown HG3.out (fun e => by have := Option.some.inj e; omega)).set 0 (.int .i64 a2),
      (((HBX.out.grown HG.out (fun e => by have := Option.some.inj e; omega)).grown HG2.out (by simp)).grown HG3.out (fun e => by have := Option.some.inj e; omega)).grown HG4.out (fun e => by have := Option.some.inj e; omega),
      (by rw [List.length_append]; exact ((HST2.out.kept HG2.out (by simp)).kept HG3.out (fun e => by have := Option.some.inj e; omega)).kept HG4.out (fun e => by have := Option.some.inj e; omega)),
      (((HHB.out.grown HG.out HHB.out.size (fun j e => by cases e; omega)).grown HG2.out (by have := HHB.out.size; omega) (fun j e => by cases e)).grown HG3.out (by have := HHB.out.size; omega) (fun j e => by cases e; omega)).grown HG4.out (by have := HHB.out.size; have := HG3.out.size; omega) (fun j e => by cases e; omega), ?_⟩
    have := HG3.out.size
    have := HG4.out.size
    omega
  case done =>
    rintro D xs W hD rfl ⟨b1, b2, b3, b4, s1, hb, hz⟩ hK
    have HBM := Lib.hid b1
    have HB1 := Lib.hid b2
    have HB2 := Lib.hid b3
    have HBX := Lib.hid b4
    have HD : Hid (W.heap[D]? = some (.deferred (some []))) := hK
    have HDR : Hid (we.heap.size ≤ D) := hD
    have HHB := Lib.hid hb
    have HLK := Lib.hid (s1.look HX64.out)
    have hff : ∀ (d : Dg) (W : World), (Instr.field 33 (eD d) 1).run Try.prog W = .ok (.bool d.told) W := fun d W => by kernel_rfl
    have hff1 := hff (gt (eyesS x (untilL l t)).L x)
    have r0 := b1.c1
    have r1 := b2.c1
    have r2 := b3.c1
    have r3 := b4.c1
    have hlk := HLK.out
    clear hK hD b1 b2 b3 b4 s1 hb hff HST HRM HR1 HR2 HRX
    generalize eyesS x (untilL l t) = s at *
    obtain ⟨L, one, two⟩ := s
    dsimp only at HNO2 HOK2 HB1 HB2 hff1 hlk r1 r2 HLK
    generalize gt L x = d at *
    dsimp only [Exit.inBlock, Exit.then]
    cases htold : d.told
    · have HP := Lib.hid (HNO2.out htold)
      rw [htold] at hff1
      clear htold
      go_wp2_with fail
      refine marks_ret1 (v := .tuple #[.int .i64 0, .int .i64 0, .int .i64 4]) HD.out rfl (by simp [results, Try.results14, go_sem]) ?_
      have h1 := HB_we.size
      have h3 := HDR.out
      exact ⟨by rw [HP.out], HHB.out.trans (belowK_b (w := w) (Nat.le_refl _) W D _ _ (by omega) HD.out rfl rfl)⟩
    · have HP := Lib.hid (HOK2.out htold)
      rw [htold] at hff1
      clear htold
      go_wp2_with fail
      have e_0 := r1
      have f_0 := r2
      have y_e_0 := cell_regrown e_0
      clear e_0
      have y_f_0 := cell_regrown f_0
      clear f_0
      refine wp_region_plan (C := fun w' => ∃ p : Regrown, w' = grow (redrawn W p.d) p.os) (.q 0 (.q 1 (.q 2 (.q 3 (.q 4 (.done)))))) 5 (by kernel_rfl) (by kernel_rfl) (grew_drew _) ?_
      repeat (any_goals (first | (go_big_quiet_skip; refine wpQuiet_nil ?_) | (go_big_quiet_want; go_big_quiet_op; go_big_quiet_on; refine wpQuiet_nil ?_) | ((with_reducible apply q_split); exact rfl; intro q hq; cases q <;> (rw [hq]; (try first | replace hq := bnot_t hq | replace hq := bnot_f hq); (try first | replace hq := of_decide_eq_true hq | replace hq := of_decide_eq_false hq | replace hq := eq_of_beq hq); (try first | replace hq := Int.not_lt.1 hq | replace hq := Int.not_le.1 hq | replace hq := Nat.not_lt.1 hq | replace hq := Nat.not_le.1 hq); try (exfalso; omega))) | (refine plan_q rfl rfl ?_)))
      clear y_e_0
      clear y_f_0
      all_goals refine plan_done ?_
      all_goals (try simp only [List.drop_succ_cons, List.drop_zero])
      all_goals (try go_wp2_with fail)
      all_goals refine NoPanic.normal ?_
      all_goals (try go_wp2_with fail)
      refine marks_ret1 (w := W.drew) (v := .tuple #[.int .i64 one, .int .i64 two, .int .i64 0]) HD.out rfl (by simp [results, Try.results14, go_sem]) ?_
      have h1 := HB_we.size
      have h3 := HDR.out
      exact ⟨by rw [HP.out], HHB.out.drew.trans (belowK_b (w := w) (Nat.le_refl _) W.drew D _ _ (by omega) HD.out rfl rfl)⟩
end Go.Proofs.Ytmbnhlihcnbebaa
