/-
  Walks of the layer 'follow': Valid, isDone, find.
-/
import Derived.Test.YtofilkphaelceaaFoA
set_option linter.unusedVariables false
namespace Go.Proofs.Ytofilkphaelceaa
open Go Go.RowKit Fo Sk Go.Sort

theorem valid_false {l : List St} {k : Nat} (h : k < l.length) (hb : okAt l k l[k] = false) : valid l = false := by
  cases hv : valid l with
  | false => rfl
  | true => rw [(valid_iff.1 hv).2 k h] at hb; cases hb
theorem valid_long {l : List St} (h : 200 < l.length) : valid l = false := by
  cases hv : valid l with
  | false => rfl
  | true => have := (valid_iff.1 hv).1; omega
theorem okAt_false {l : List St} {k : Nat} {s : St} (h : isNum s.n = false ∨ s.n ≤ lastN l k ∨ risesB s.af = false ∨ s.af.all (inN (l.take k)) = false) : okAt l k s = false := by
  unfold okAt
  rcases h with h | h | h | h
  · simp [h]
  · rw [decide_eq_false (by omega)]; simp
  · simp [h]
  · simp [h]

set_option maxRecDepth 100000 in
set_option maxHeartbeats 4000000 in
theorem Valid_any (ao : Option Addr) (n cap : Nat) (l : List St) (w : World) (hs : SlS w ao n cap l) : Calls Try.prog 13 #[.slice ao n cap] w (Ret w (.bool (valid l))) := by
  obtain rfl := hs.1.len
  have hcap := hs.1.max
  have hle := hs.1.le
  unfold maxLen at hcap
  have HS := Lib.hid hs
  have hmm := @run_makeMap Try.prog
  have HVF := Lib.hid (fun k h hb => @valid_false l k h hb)
  have HVL := Lib.hid (@valid_long l)
  have HVT := Lib.hid (fun h1 h2 => (@valid_iff l).2 ⟨h1, h2⟩)
  clear hs
  generalize valid l = v at *
  go_enter Try.func13, Try.ntmps13
  go_wp2_with fail
  clear hmm
  go_loopw [4, 10] (fun la i wr => ∃ k : Nat, k ≤ l.length ∧ i = .int .i64 k ∧ la = .int .i64 (lastN l k) ∧ Below w.heap.size w wr ∧ Hid (SetOf wr w.heap.size k (inN (l.take k))) ∧ Hid (∀ (i : Nat) (h : i < l.length), i < k → okAt l i l[i] = true)) (fun _ i _ => l.length - (intOf i).toNat)
  case atStart => exact ⟨0, by omega, rfl, rfl, grew1 (Below.refl _ _), (SetOf.made w).congr (fun x _ => by simp [inN]), fun i _ h => absurd h (Nat.not_lt_zero _)⟩
  case round =>
    obtain ⟨k, hk, rfl, rfl, HB_wr, HSET, HJ⟩ := hrel
    by_cases hlt : k < l.length
    · obtain ⟨b', off, rfl, hb, hrow⟩ := HS.out.1.get hlt
      obtain ⟨e_0, e_1⟩ := ((hrow k hlt).below HB_wr hb).c2
      have HSO := Lib.hid ((HS.out.2 _ (List.getElem_mem hlt)).below HB_wr)
      have HLA := Lib.hid (lastN_succ hlt)
      have HIN := Lib.hid (fun x => inN_succ hlt x)
      have HVK := Lib.hid (fun h => HVF.out k hlt (okAt_false h))
      have HN := Lib.hid (show okAt l k l[k] = true → ∀ (i : Nat) (h : i < l.length), i < k + 1 → okAt l i l[i] = true from fun h0 i h hi => by
        rcases Nat.lt_succ_iff_lt_or_eq.1 hi with h1 | rfl
        · exact HJ.out i h h1
        · exact h0)
      have HOK := Lib.hid (@okAt_iff l k l[k]).2
      clear hrow HVF
      generalize l[k] = s at *
      generalize lastN l k = la at *
      obtain ⟨s0, s1, s2, s3, s4⟩ := s
      dsimp only at e_0 e_1 HSO HLA HIN HVK HOK
      obtain ⟨W1, hW1, hB1, hZ1, hb1⟩ := boxes1 wr [.int .i64 s0, .slice s1 s2 s3] 44
      have H_s := Lib.hid hb1
      have HB_W1 : Below w.heap.size w W1 := after0 HB_wr hB1
      replace HSO := Lib.hid (HSO.out.below hB1)
      replace HSET := Lib.hid (HSET.out.below hB1)
      clear hb1 hZ1 hB1
      obtain ⟨q_s_0, q_s_1⟩ := H_s.out.c2
      go_wp2_with fail
      refine (isNumber_any _ _).mono ?_
      rintro e wa ⟨rfl, hb_wa⟩
      have HB_wa : Below w.heap.size w wa := by first | exact after0 HB_W1 hb_wa | exact after1 HB_W1 hb_wa | exact after2 HB_W1 hb_wa | exact after3 HB_W1 hb_wa | exact after4 HB_W1 hb_wa | exact after5 HB_W1 hb_wa
      try clear q_s_0 q_s_1
      have H_s := Lib.hid (Box.below (by first | exact H_s.out | exact H_s.out.alloc _ | exact (H_s.out.alloc _).alloc _ | exact ((H_s.out.alloc _).alloc _).alloc _) hb_wa)
      obtain ⟨q_s_0, q_s_1⟩ := H_s.out.c2
      replace HSO := Lib.hid (HSO.out.below hb_wa)
      replace HSET := Lib.hid (HSET.out.below hb_wa)
      clear hW1 e_0 e_1
      cases h1 : isNum s0
      · have HP := Lib.hid (HVK.out (.inl h1))
        clear h1
        go_wp2_with fail
        go_ret
        exact ⟨ret_bool' HP.out.symm, HB_wa⟩
      have H1 := Lib.hid h1
      clear h1
      by_cases h2 : s0 ≤ la
      · have HP := Lib.hid (HVK.out (.inr (.inl h2)))
        go_wp2_with fail
        go_ret
        exact ⟨ret_bool' HP.out.symm, HB_wa⟩
      replace h2 := Int.not_le.1 h2
      go_wp2_with fail
      refine (rises_any _ _ _ s4 _ HSO.out.1).mono ?_
      rintro e wb ⟨rfl, hb_wb⟩
      have HB_wb : Below w.heap.size w wb := by first | exact after0 HB_wa hb_wb | exact after1 HB_wa hb_wb | exact after2 HB_wa hb_wb | exact after3 HB_wa hb_wb | exact after4 HB_wa hb_wb | exact after5 HB_wa hb_wb
      try clear q_s_0 q_s_1
      have H_s := Lib.hid (Box.below (by first | exact H_s.out | exact H_s.out.alloc _ | exact (H_s.out.alloc _).alloc _ | exact ((H_s.out.alloc _).alloc _).alloc _) hb_wb)
      obtain ⟨q_s_0, q_s_1⟩ := H_s.out.c2
      replace HSO := Lib.hid (HSO.out.below hb_wb)
      replace HSET := Lib.hid (HSET.out.below hb_wb)
      cases h3 : risesB s4
      · have HP := Lib.hid (HVK.out (.inr (.inr (.inl h3))))
        clear h3
        go_wp2_with fail
        go_ret
        exact ⟨ret_bool' HP.out.symm, HB_wb⟩
      have H3 := Lib.hid h3
      clear h3
      go_wp2_with fail
      refine (all_any _ _ _ _ _ _ s4 _ HSET.out HSO.out.1 HSO.out.2).mono ?_
      rintro e wc ⟨rfl, hb_wc⟩
      have HB_wc : Below w.heap.size w wc := by first | exact after0 HB_wb hb_wc | exact after1 HB_wb hb_wc | exact after2 HB_wb hb_wc | exact after3 HB_wb hb_wc | exact after4 HB_wb hb_wc | exact after5 HB_wb hb_wc
      try clear q_s_0 q_s_1
      have H_s := Lib.hid (Box.below (by first | exact H_s.out | exact H_s.out.alloc _ | exact (H_s.out.alloc _).alloc _ | exact ((H_s.out.alloc _).alloc _).alloc _) hb_wc)
      obtain ⟨q_s_0, q_s_1⟩ := H_s.out.c2
      replace HSET := Lib.hid (HSET.out.below hb_wc)
      cases h4 : s4.all (inN (l.take k))
      · have HP := Lib.hid (HVK.out (.inr (.inr (.inr h4))))
        clear h4
        go_wp2_with fail
        go_ret
        exact ⟨ret_bool' HP.out.symm, HB_wc⟩
      have HN2 := Lib.hid (HN.out (HOK.out ⟨H1.out, h2, H3.out, h4⟩))
      have hx : I64 s0 := i64_num H1.out
      clear h4 HN HOK HVK HSO
      go_wp2_with (at_mapUpdate; refine wpList_put_set rfl _ _ _ rfl w.heap.size k _ rfl HSET.out (by unfold maxLen; omega) s0 rfl rfl hx ?_; intro w1 hset1 hg1)
      have HS1 := Lib.hid (hset1.congr (S' := inN (l.take (k + 1))) (fun y _ => by rw [HIN.out]; congr 1; rw [Bool.eq_iff_iff]; simp; exact eq_comm))
      have HB_w1 : Below w.heap.size w w1 := HB_wc.grown hg1 HB_wc.size (fun j hj => by cases hj; exact Nat.le_refl _)
      clear hset1 hg1
      go_wp2_with fail
      go_roundw
      case rel => exact ⟨k + 1, by omega, by go_num, by rw [HLA.out], HB_w1, HS1, HN2⟩
      case measure => simp [intOf]; omega
    · obtain rfl : k = l.length := by omega
      by_cases h9 : 200 < l.length
      · have HP := Lib.hid (HVL.out h9)
        have h9i : 200 < (l.length : Int) := by omega
        go_wp2_with fail
        all_goals try (exfalso; omega)
        go_ret
        first | exact ⟨ret_bool' HP.out.symm, HB_wr⟩ | exact ⟨ret_bool' (by rw [HP.out]; first | exact decide_eq_true (by omega) | exact decide_eq_false (by omega)), HB_wr⟩
      · have HP := Lib.hid (HVT.out (Nat.not_lt.1 h9) (fun i h => HJ.out i h h))
        have h9i : (l.length : Int) ≤ 200 := by omega
        go_wp2_with fail
        all_goals try (exfalso; omega)
        go_ret
        first | exact ⟨ret_bool' HP.out.symm, HB_wr⟩ | exact ⟨ret_bool' (by rw [HP.out]; first | exact decide_eq_true (by omega) | exact decide_eq_false (by omega)), HB_wr⟩

theorem done_false {d : List Int} (h : 200 < d.length ∨ risesB d = false ∨ ∃ (h : d.length - 1 < d.length), d[0] < 1 ∨ 10000 < d[d.length - 1]) : isDone d = false := by
  cases hv : isDone d with
  | false => rfl
  | true =>
    obtain ⟨h1, h2, h3⟩ := isDone_iff.1 hv
    rcases h with h | h | ⟨h0, h | h⟩
    · omega
    · rw [risesB_iff.2 h2] at h; cases h
    · have := h3 d[0] (List.getElem_mem _); omega
    · have := h3 d[d.length - 1] (List.getElem_mem _); omega
theorem done_true {d : List Int} (h1 : d.length ≤ 200) (h2 : risesB d = true) (h3 : d = [] ∨ ∃ (h : d.length - 1 < d.length), 1 ≤ d[0] ∧ d[d.length - 1] ≤ 10000) : isDone d = true := by
  refine isDone_iff.2 ⟨h1, risesB_iff.1 h2, ?_⟩
  rcases h3 with rfl | ⟨h, h4, h5⟩
  · intro x hx; cases hx
  · have hne : d ≠ [] := by intro e; subst e; simp at h
    exact done_ends (risesB_iff.1 h2) hne (by rw [List.head_eq_getElem]; exact h4) (by rw [List.getLast_eq_getElem]; exact h5)

set_option maxRecDepth 100000 in
set_option maxHeartbeats 4000000 in
theorem isDone_any (ao : Option Addr) (n cap : Nat) (d : List Int) (w : World) (hs : Sl w 1 cI ao n cap d) : Calls Try.prog 40 #[.slice ao n cap] w (Ret w (.bool (isDone d))) := by
  obtain rfl := hs.len
  have hcap := hs.max
  have hle := hs.le
  unfold maxLen at hcap
  have HS := Lib.hid hs
  have HB_w : Below w.heap.size w w := Below.refl _ _
  have HF := Lib.hid (@done_false d)
  have HT := Lib.hid (@done_true d)
  clear hs
  generalize isDone d = v at *
  go_enter Try.func40, Try.ntmps40
  by_cases h9 : 200 < d.length
  · have HP := Lib.hid (HF.out (.inl h9))
    have h9i : 200 < (d.length : Int) := by omega
    go_wp2_with fail
    all_goals try (exfalso; omega)
    go_ret
    exact ⟨ret_bool' HP.out.symm, HB_w⟩
  replace h9 := Nat.not_lt.1 h9
  have h9i : (d.length : Int) ≤ 200 := by omega
  go_wp2_with fail
  refine (rises_any _ _ _ d _ HS.out).mono ?_
  rintro e wa ⟨rfl, hb_wa⟩
  have HB_wa : Below w.heap.size w wa := by first | exact after0 HB_w hb_wa | exact after1 HB_w hb_wa | exact after2 HB_w hb_wa | exact after3 HB_w hb_wa | exact after4 HB_w hb_wa | exact after5 HB_w hb_wa
  replace HS := Lib.hid (show Sl wa _ _ _ _ _ _ by first | exact HS.out.below hb_wa | exact (HS.out.below (grew1 (Below.refl _ _))).below hb_wa | exact (HS.out.below (grew2 (Below.refl _ _))).below hb_wa | exact (HS.out.below (grew3 (Below.refl _ _))).below hb_wa)
  cases h3 : risesB d
  · have HP := Lib.hid (HF.out (.inr (.inl h3)))
    clear h3
    go_wp2_with fail
    go_ret
    exact ⟨ret_bool' HP.out.symm, HB_wa⟩
  replace HT := Lib.hid (HT.out h9 h3)
  replace HF := Lib.hid (fun h => HF.out (.inr (.inr h)))
  clear h3
  rcases Nat.eq_zero_or_pos d.length with h0 | h0
  · have HP := Lib.hid (HT.out (.inl (List.eq_nil_of_length_eq_zero h0)))
    have hz : ((d.length : Int) == 0) = true := by rw [h0]; rfl
    clear h0
    go_wp2_with fail
    go_ret
    exact ⟨ret_bool' HP.out.symm, HB_wa⟩
  have hz : ((d.length : Int) == 0) = false := beq_eq_false_iff_ne.2 (by omega)
  obtain ⟨b', off, rfl, hb, hrow⟩ := HS.out.get h0
  have e_0 := (hrow 0 h0).c1
  have f_0 := (hrow (d.length - 1) (by omega)).c1
  rw [Nat.mul_one] at e_0 f_0
  rw [Nat.add_zero] at e_0
  replace HT := Lib.hid (show 1 ≤ d[0] → d[d.length - 1] ≤ 10000 → v = true from fun h1 h2 => HT.out (.inr ⟨by omega, h1, h2⟩))
  replace HF := Lib.hid (show d[0] < 1 ∨ 10000 < d[d.length - 1] → v = false from fun h => HF.out ⟨by omega, h⟩)
  clear hrow
  obtain ⟨x, hx⟩ : ∃ x, d[0] = x := ⟨_, rfl⟩
  obtain ⟨y, hy⟩ : ∃ y, d[d.length - 1] = y := ⟨_, rfl⟩
  rw [hx] at e_0 HT HF
  rw [hy] at f_0 HT HF
  clear hx hy
  by_cases h1 : x < 1
  · have HP := Lib.hid (HF.out (.inl h1))
    go_wp2_with fail
    all_goals try (exfalso; omega)
    go_ret
    exact ⟨ret_bool' HP.out.symm, HB_wa⟩
  replace h1 : 1 ≤ x := by omega
  by_cases h2 : 10000 < y
  · have HP := Lib.hid (HF.out (.inr h2))
    go_wp2_with fail
    all_goals try (exfalso; omega)
    go_ret
    first | exact ⟨ret_bool' HP.out.symm, HB_wa⟩ | exact ⟨ret_bool' (by rw [HP.out]; first | exact decide_eq_true (by omega) | exact decide_eq_false (by omega)), HB_wa⟩
  · have HP := Lib.hid (HT.out h1 (by omega))
    replace h2 := Int.not_lt.1 h2
    go_wp2_with fail
    all_goals try (exfalso; omega)
    go_ret
    first | exact ⟨ret_bool' HP.out.symm, HB_wa⟩ | exact ⟨ret_bool' (by rw [HP.out]; first | exact decide_eq_true (by omega) | exact decide_eq_false (by omega)), HB_wa⟩

def cmpI (a b : Int) : Int := if a < b then -1 else if b < a then 1 else 0
theorem isNaN_any (a : Int) (w : World) : Calls Try.prog 60 #[.int .i64 a] w (Ret w (.bool false)) := by
  go_enter Try.func60, Try.ntmps60
  go_wp2
  all_goals
    go_ret
    exact ⟨ret_bool (by simp), Below.refl _ _⟩
theorem compare_any (a b : Int) (w : World) : Calls Try.prog 57 #[.int .i64 a, .int .i64 b] w (Ret w (.int .i64 (cmpI a b))) := by
  have HB_w : Below w.heap.size w w := Below.refl _ _
  have HC := Lib.hid (show cmpI a b = if a < b then -1 else if b < a then 1 else 0 from rfl)
  generalize cmpI a b = c at *
  go_enter Try.func57, Try.ntmps57
  go_wp2_with fail
  refine (isNaN_any _ _).mono ?_
  rintro e wa ⟨rfl, hb_wa⟩
  have HB_wa : Below w.heap.size w wa := by first | exact after0 HB_w hb_wa | exact after1 HB_w hb_wa | exact after2 HB_w hb_wa | exact after3 HB_w hb_wa | exact after4 HB_w hb_wa | exact after5 HB_w hb_wa
  go_wp2_with fail
  refine (isNaN_any _ _).mono ?_
  rintro e wb ⟨rfl, hb_wb⟩
  have HB_wb : Below w.heap.size w wb := by first | exact after0 HB_wa hb_wb | exact after1 HB_wa hb_wb | exact after2 HB_wa hb_wb | exact after3 HB_wa hb_wb | exact after4 HB_wa hb_wb | exact after5 HB_wa hb_wb
  by_cases h1 : a < b
  · have HP := Lib.hid (HC.out.trans (if_pos h1))
    go_wp2_with fail
    go_ret
    exact ⟨ret_int HP.out.symm, HB_wb⟩
  have HP := Lib.hid (HC.out.trans (if_neg h1))
  replace h1 := Int.not_lt.1 h1
  by_cases h2 : b < a
  · have HP2 := Lib.hid (HP.out.trans (if_pos h2))
    go_wp2_with fail
    go_ret
    exact ⟨ret_int HP2.out.symm, HB_wb⟩
  · have HP2 := Lib.hid (HP.out.trans (if_neg h2))
    replace h2 := Int.not_lt.1 h2
    go_wp2_with fail
    go_ret
    exact ⟨ret_int HP2.out.symm, HB_wb⟩
theorem find1_any (s : St) (n : Int) (w : World) : Calls Try.prog 56 #[eS s, .int .i64 n] w (Ret w (.int .i64 (cmpI s.n n))) := by
  obtain ⟨s0, s1, s2, s3, s4⟩ := s
  obtain ⟨W0, hW0, HB_W0, hZ, hn⟩ := boxes1 w [.int .i64 s0, .slice s1 s2 s3] 44
  have H_s := Lib.hid hn
  clear hn hZ
  obtain ⟨q_s_0, q_s_1⟩ := H_s.out.c2
  go_enter Try.func56, Try.ntmps56
  go_wp2_with fail
  refine (compare_any _ _ _).mono ?_
  rintro e wa ⟨rfl, hb_wa⟩
  have HB_wa : Below w.heap.size w wa := by first | exact after0 HB_W0 hb_wa | exact after1 HB_W0 hb_wa | exact after2 HB_W0 hb_wa | exact after3 HB_W0 hb_wa | exact after4 HB_W0 hb_wa | exact after5 HB_W0 hb_wa
  clear hW0
  go_wp2_with fail
  go_ret
  exact ⟨rfl, HB_wa⟩
theorem cmpI_lt {a b : Int} (h : a < b) : cmpI a b = -1 := by simp [cmpI, h]
theorem cmpI_eq (a : Int) : cmpI a a = 0 := by simp [cmpI]
theorem cmpI_gt {a b : Int} (h : b < a) : cmpI a b = 1 := by unfold cmpI; rw [if_neg (by omega), if_pos h]
end Go.Proofs.Ytofilkphaelceaa
