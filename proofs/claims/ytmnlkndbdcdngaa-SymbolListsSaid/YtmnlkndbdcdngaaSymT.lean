/-
  'SymbolLists': plain law and walk.
-/
import Derived.Test.YtmnlkndbdcdngaaSymN
namespace Sb
theorem syms_at {a : List Mk} (h : VOk a) (p : Mk → Bool) {m : Mk} (hm : m ∈ a) : ((a.filter p).map Mk.sy).any (fun x => x == m.sy) = p m := by
  cases hp : p m
  · rw [List.any_eq_false]
    intro x hx
    obtain ⟨z, hz, rfl⟩ := List.mem_map.1 hx
    obtain ⟨h1, h2⟩ := List.mem_filter.1 hz
    intro he
    have e := eq_of_beq he
    have k1 := lookM_mem h h1
    rw [e, lookM_mem h hm] at k1
    obtain rfl := Option.some.inj k1
    rw [hp] at h2
    cases h2
  · rw [List.any_eq_true]
    exact ⟨m.sy, List.mem_map.2 ⟨m, List.mem_filter.2 ⟨hm, hp⟩, rfl⟩, by simp⟩
theorem syms_not {a : List Mk} (p : Mk → Bool) {s : Int} (hno : ∀ x ∈ a, x.sy ≠ s) : ((a.filter p).map Mk.sy).any (fun x => x == s) = false := by
  rw [List.any_eq_false]
  intro x hx
  obtain ⟨z, hz, rfl⟩ := List.mem_map.1 hx
  simpa using hno z (List.mem_filter.1 hz).1
theorem syms_inc {a : List Mk} (h : VOk a) (p : Mk → Bool) : ((a.filter p).map Mk.sy).Pairwise (fun x y => x < y) := by
  rw [List.pairwise_map]
  exact h.inc.sublist List.filter_sublist

theorem lists_law {oa ob s e f g h t k : Int} {a b : List Mk} {l c : List Int} {m x : Mk} (h1 : symsF oa a ob b isLost = (l, e)) (h2 : symsF oa a ob b isChanged = (c, f)) (h3 : findF oa a s = (m, g)) (h4 : translate oa a ob b s = (t, h)) (h5 : findF ob b t = (x, k)) :
    (e ≠ 0 ∧ e = f) ∨ (e = 0 ∧ f = 0 ∧ l.Pairwise (fun x y => x < y) ∧ c.Pairwise (fun x y => x < y) ∧
      ((g ≠ 0 ∧ l.any (fun x => x == s) = false ∧ c.any (fun x => x == s) = false) ∨ (g = 0 ∧ h = 4 ∧ l.any (fun x => x == s) = true ∧ c.any (fun x => x == s) = false) ∨
      (g = 0 ∧ h = 0 ∧ k = 0 ∧ l.any (fun x => x == s) = false ∧ m.cl < x.cl ∧ c.any (fun x => x == s) = true) ∨ (g = 0 ∧ h = 0 ∧ k = 0 ∧ l.any (fun x => x == s) = false ∧ x.cl ≤ m.cl ∧ c.any (fun x => x == s) = false))) := by
  unfold symsF at h1 h2
  cases hab : okB oa a && okB ob b
  · left
    rw [hab, if_neg (by simp)] at h1 h2
    obtain ⟨rfl, rfl⟩ := Prod.mk.inj h1
    obtain ⟨rfl, rfl⟩ := Prod.mk.inj h2
    exact ⟨by decide, rfl⟩
  · right
    rw [hab, if_pos rfl] at h1 h2
    simp only [Bool.and_eq_true] at hab
    obtain ⟨ha, hb⟩ := hab
    obtain ⟨rfl, rfl⟩ := Prod.mk.inj h1
    obtain ⟨rfl, rfl⟩ := Prod.mk.inj h2
    refine ⟨rfl, rfl, syms_inc (vok ha) _, syms_inc (vok ha) _, ?_⟩
    rcases find_cases h3 with ⟨rfl, _, hs, hm, rfl⟩ | ⟨rfl, _, _, _, hno⟩ | ⟨rfl, _, hbad⟩
    · right
      rw [syms_at (vok ha) _ hm, syms_at (vok ha) _ hm]
      rcases translate_cases h4 with ⟨rfl, _, _, _, m', hm', hms, hf, rfl⟩ | ⟨rfl, _, _, _, _, m', hm', hms, hf⟩ | ⟨_, _, _, _, _, hno⟩ | ⟨_, _, hbad⟩
      · obtain rfl := same_sy ha hm' hm hms
        right
        obtain ⟨k1, k2, k3, k4⟩ := trans_found (vok hb) hf
        rw [find_mem hb k1] at h5
        obtain ⟨rfl, rfl⟩ := Prod.mk.inj h5
        by_cases hc : m'.cl < (trans b m').cl
        · exact .inl ⟨rfl, rfl, rfl, by simp [isLost, hf], hc, by simp [isChanged, hf, hc]⟩
        · exact .inr ⟨rfl, rfl, rfl, by simp [isLost, hf], by omega, by simp [isChanged, hc]⟩
      · obtain rfl := same_sy ha hm' hm hms
        exact .inl ⟨rfl, rfl, by simp [isLost, hf], by simp [isChanged, hf]⟩
      · exact absurd rfl (hno _ hm)
      · rw [ha, hb, hs] at hbad; cases hbad
    · exact .inl ⟨by decide, syms_not _ hno, syms_not _ hno⟩
    · left
      rw [ha, Bool.true_and] at hbad
      have hno : ∀ z ∈ a, z.sy ≠ s := by
        intro z hz he
        rw [← he, okS_of ha hz] at hbad
        cases hbad
      exact ⟨by decide, syms_not _ hno, syms_not _ hno⟩
theorem any_step {l : List Int} {j : Nat} (hj : j < l.length) (s : Int) : (l.take (j + 1)).any (fun x => x == s) = ((l.take j).any (fun x => x == s) || (l[j] == s)) := by
  rw [List.take_add_one, List.getElem?_eq_getElem hj, List.any_append]
  simp
end Sb
namespace Go.Proofs.Ytmnlkndbdcdngaa
open Go.RowKit Sb Sk Go.Sort
set_option linter.unusedVariables false


set_option maxRecDepth 100000 in
set_option maxHeartbeats 8000000 in
theorem lists_walk (oa : Int) (aa : Option Addr) (na ca : Nat) (a : List Mk) (ob : Int) (ab : Option Addr) (nb cb : Nat) (b : List Mk) (s : Int) (w : World) (ha : Sl w 3 cM aa na ca a) (hb : Sl w 3 cM ab nb cb b) :
    Calls Try.prog 9 #[.agg #[.int .i64 oa, .slice aa na ca], .agg #[.int .i64 ob, .slice ab nb cb], .int .i64 s] w (Ret w (.bool true)) := by
  obtain ⟨l, e, h1⟩ := syms_ex oa a ob b isLost
  obtain ⟨c, f, h2⟩ := syms_ex oa a ob b isChanged
  obtain ⟨m0, m1, m2, g, h3⟩ := find_ex oa a s
  obtain ⟨t, h, h4⟩ := translate_ex oa a ob b s
  obtain ⟨x0, x1, x2, k, h5⟩ := find_ex ob b t
  have HLAW := lists_law h1 h2 h3 h4 h5
  replace h1 := Lib.hid h1
  replace h2 := Lib.hid h2
  replace h3 := Lib.hid h3
  replace h4 := Lib.hid h4
  replace h5 := Lib.hid h5
  obtain ⟨W0, hW0, HB_W0, hZ, hA, hB⟩ := boxes2 w [.int .i64 oa, .slice aa na ca] [.int .i64 ob, .slice ab nb cb] 24 24
  have H_a := Lib.hid hA
  have H_b := Lib.hid hB
  have HSA := Lib.hid (ha.below HB_W0)
  have HSB := Lib.hid (hb.below HB_W0)
  clear ha hb hA hB hZ
  have HL := Lib.hid HLAW
  clear HLAW
  go_enter Try.func9, Try.ntmps9
  go_wp2_with fail
  refine (head_any _).mono ?_
  rintro e w1 ⟨rfl, hb_w1⟩
  have HB_w1 : Below w.heap.size w w1 := by first | exact after0 HB_W0 hb_w1 | exact after1 HB_W0 hb_w1 | exact after2 HB_W0 hb_w1 | exact after3 HB_W0 hb_w1 | exact after4 HB_W0 hb_w1 | exact after5 HB_W0 hb_w1
  try clear q_a_0 q_a_1
  have H_a := Lib.hid (Box.below (by first | exact H_a.out | exact H_a.out.alloc _ | exact (H_a.out.alloc _).alloc _ | exact ((H_a.out.alloc _).alloc _).alloc _) hb_w1)
  obtain ⟨q_a_0, q_a_1⟩ := H_a.out.c2
  try clear q_b_0 q_b_1
  have H_b := Lib.hid (Box.below (by first | exact H_b.out | exact H_b.out.alloc _ | exact (H_b.out.alloc _).alloc _ | exact ((H_b.out.alloc _).alloc _).alloc _) hb_w1)
  obtain ⟨q_b_0, q_b_1⟩ := H_b.out.c2
  replace HSA := Lib.hid (show Sl w1 _ _ _ _ _ _ by first | exact HSA.out.below hb_w1 | exact (HSA.out.below (grew1 (Below.refl _ _))).below hb_w1 | exact (HSA.out.below (grew2 (Below.refl _ _))).below hb_w1 | exact (HSA.out.below (grew3 (Below.refl _ _))).below hb_w1)
  replace HSB := Lib.hid (show Sl w1 _ _ _ _ _ _ by first | exact HSB.out.below hb_w1 | exact (HSB.out.below (grew1 (Below.refl _ _))).below hb_w1 | exact (HSB.out.below (grew2 (Below.refl _ _))).below hb_w1 | exact (HSB.out.below (grew3 (Below.refl _ _))).below hb_w1)
  clear hW0
  go_wp2_with fail
  refine (lost_to h1.out (by first | exact HSA.out | exact HSA.out.below (grew1 (Below.refl _ _)) | exact HSA.out.below (grew2 (Below.refl _ _)) | exact HSA.out.below (grew3 (Below.refl _ _))) (by first | exact HSB.out | exact HSB.out.below (grew1 (Below.refl _ _)) | exact HSB.out.below (grew2 (Below.refl _ _)) | exact HSB.out.below (grew3 (Below.refl _ _)))).mono ?_
  rintro e w2 ⟨ao1, n1, cap1, rfl, hl, hb_w2⟩
  have HB_w2 : Below w.heap.size w w2 := by first | exact after0 HB_w1 hb_w2 | exact after1 HB_w1 hb_w2 | exact after2 HB_w1 hb_w2 | exact after3 HB_w1 hb_w2 | exact after4 HB_w1 hb_w2 | exact after5 HB_w1 hb_w2
  try clear q_a_0 q_a_1
  have H_a := Lib.hid (Box.below (by first | exact H_a.out | exact H_a.out.alloc _ | exact (H_a.out.alloc _).alloc _ | exact ((H_a.out.alloc _).alloc _).alloc _) hb_w2)
  obtain ⟨q_a_0, q_a_1⟩ := H_a.out.c2
  try clear q_b_0 q_b_1
  have H_b := Lib.hid (Box.below (by first | exact H_b.out | exact H_b.out.alloc _ | exact (H_b.out.alloc _).alloc _ | exact ((H_b.out.alloc _).alloc _).alloc _) hb_w2)
  obtain ⟨q_b_0, q_b_1⟩ := H_b.out.c2
  replace HSA := Lib.hid (show Sl w2 _ _ _ _ _ _ by first | exact HSA.out.below hb_w2 | exact (HSA.out.below (grew1 (Below.refl _ _))).below hb_w2 | exact (HSA.out.below (grew2 (Below.refl _ _))).below hb_w2 | exact (HSA.out.below (grew3 (Below.refl _ _))).below hb_w2)
  replace HSB := Lib.hid (show Sl w2 _ _ _ _ _ _ by first | exact HSB.out.below hb_w2 | exact (HSB.out.below (grew1 (Below.refl _ _))).below hb_w2 | exact (HSB.out.below (grew2 (Below.refl _ _))).below hb_w2 | exact (HSB.out.below (grew3 (Below.refl _ _))).below hb_w2)
  have HSL := Lib.hid hl
  clear hl
  go_wp2_with fail
  refine (changed_to h2.out (by first | exact HSA.out | exact HSA.out.below (grew1 (Below.refl _ _)) | exact HSA.out.below (grew2 (Below.refl _ _)) | exact HSA.out.below (grew3 (Below.refl _ _))) (by first | exact HSB.out | exact HSB.out.below (grew1 (Below.refl _ _)) | exact HSB.out.below (grew2 (Below.refl _ _)) | exact HSB.out.below (grew3 (Below.refl _ _)))).mono ?_
  rintro e w3 ⟨ao2, n2, cap2, rfl, hl, hb_w3⟩
  have HB_w3 : Below w.heap.size w w3 := by first | exact after0 HB_w2 hb_w3 | exact after1 HB_w2 hb_w3 | exact after2 HB_w2 hb_w3 | exact after3 HB_w2 hb_w3 | exact after4 HB_w2 hb_w3 | exact after5 HB_w2 hb_w3
  try clear q_a_0 q_a_1
  have H_a := Lib.hid (Box.below (by first | exact H_a.out | exact H_a.out.alloc _ | exact (H_a.out.alloc _).alloc _ | exact ((H_a.out.alloc _).alloc _).alloc _) hb_w3)
  obtain ⟨q_a_0, q_a_1⟩ := H_a.out.c2
  try clear q_b_0 q_b_1
  have H_b := Lib.hid (Box.below (by first | exact H_b.out | exact H_b.out.alloc _ | exact (H_b.out.alloc _).alloc _ | exact ((H_b.out.alloc _).alloc _).alloc _) hb_w3)
  obtain ⟨q_b_0, q_b_1⟩ := H_b.out.c2
  replace HSA := Lib.hid (show Sl w3 _ _ _ _ _ _ by first | exact HSA.out.below hb_w3 | exact (HSA.out.below (grew1 (Below.refl _ _))).below hb_w3 | exact (HSA.out.below (grew2 (Below.refl _ _))).below hb_w3 | exact (HSA.out.below (grew3 (Below.refl _ _))).below hb_w3)
  replace HSB := Lib.hid (show Sl w3 _ _ _ _ _ _ by first | exact HSB.out.below hb_w3 | exact (HSB.out.below (grew1 (Below.refl _ _))).below hb_w3 | exact (HSB.out.below (grew2 (Below.refl _ _))).below hb_w3 | exact (HSB.out.below (grew3 (Below.refl _ _))).below hb_w3)
  replace HSL := Lib.hid (show Sl w3 _ _ _ _ _ _ by first | exact HSL.out.below hb_w3 | exact (HSL.out.below (grew1 (Below.refl _ _))).below hb_w3 | exact (HSL.out.below (grew2 (Below.refl _ _))).below hb_w3 | exact (HSL.out.below (grew3 (Below.refl _ _))).below hb_w3)
  have HSC := Lib.hid hl
  clear hl
  rcases HL.out with ⟨k1, rfl⟩ | ⟨rfl, rfl, k1, k2, k3⟩
  ·
    go_wp2_with fail
    all_goals try (exfalso; omega)
    all_goals try (go_ret; first | exact ⟨rfl, HB_w3⟩ | (refine ⟨ret_bool ?_, HB_w3⟩; simp; omega))
  · clear HL
    replace k1 := Lib.hid k1
    replace k2 := Lib.hid k2
    replace k3 := Lib.hid k3
    clear q_a_0 q_a_1 q_b_0 q_b_1
    obtain rfl := HSL.out.len
    obtain rfl := HSC.out.len
    have hcap := HSL.out.max
    have hle := HSL.out.le
    have hcapb := HSC.out.max
    have hleb := HSC.out.le
    unfold maxLen at hcap hcapb
    go_wp2_with fail
    go_loopw [7, 12, 13] (fun u v i wr => ∃ j : Nat, j ≤ l.length ∧ i = .int .i64 j ∧ u = .bool true ∧ v = .bool ((l.take j).any fun x => x == s) ∧ Below w3.heap.size w3 wr) (fun _ _ i _ => l.length - (intOf i).toNat)
    case atStart => exact ⟨0, by omega, rfl, rfl, by simp, by first | exact HB_wr | exact Below.refl _ _⟩
    case round =>
      obtain ⟨j, hj, rfl, rfl, rfl, HB_wr⟩ := hrel
      by_cases hjl : j < l.length
      case pos =>
        obtain ⟨b', off, rfl, hb', hrow⟩ := HSL.out.get hjl
        have e_0 := ((hrow j hjl).below HB_wr hb').c1
        rw [Nat.mul_one] at e_0
        have HST := Lib.hid (any_step hjl s)
        generalize (l.take j).any (fun x => x == s) = v at *
        rcases Nat.eq_zero_or_pos j with h0 | h0
        · have hz : ((j : Int) == 0) = true := by rw [h0]; rfl
          replace h0 := Lib.hid h0
          clear hrow
          generalize hu : l[j] = u at *
          replace hu := Lib.hid hu
          cases v
          all_goals
            go_wp2_with fail
            have y_e_0 := cell_regrown e_0
            clear e_0
            refine wp_region_plan (C := fun w' => ∃ p : Regrown, w' = grow (redrawn wr p.d) p.os) (.q 0 (.q 1 (.q 2 (.q 3 (.q 4 (.q 5 (.q 6 (.q 7 (.q 8 (.q 9 (.q 10 (.q 11 (.q 12 (.q 13 (.q 14 (.q 15 (.q 16 (.q 17 (.done))))))))))))))))))) 18 (by kernel_rfl) (by kernel_rfl) (grew_drew _) ?_
            repeat (any_goals (first | (go_big_quiet_skip; refine wpQuiet_nil ?_) | (go_big_quiet_want; go_big_quiet_op; go_big_quiet_on; refine wpQuiet_nil ?_) | ((with_reducible apply q_split); exact rfl; intro q hq; cases q <;> (rw [hq]; (try first | replace hq := bnot_t hq | replace hq := bnot_f hq); (try first | replace hq := of_decide_eq_true hq | replace hq := of_decide_eq_false hq | replace hq := eq_of_beq hq); (try first | replace hq := Int.not_lt.1 hq | replace hq := Int.not_le.1 hq | replace hq := Nat.not_lt.1 hq | replace hq := Nat.not_le.1 hq); try (exfalso; omega))) | (refine plan_q rfl rfl ?_)))
            clear y_e_0
            all_goals refine plan_done ?_
            all_goals (try simp only [List.drop_succ_cons, List.drop_zero])
            all_goals (try go_wp2_with fail)
            all_goals refine NoPanic.normal ?_
            all_goals (try go_wp2_with fail)
            go_roundw
            case rel => exact ⟨j + 1, by omega, by go_num, rfl, by rw [HST.out]; rfl, HB_wr.drew⟩
            case measure => simp [intOf]; omega
        · have f_0 := ((hrow (j - 1) (by omega)).below HB_wr hb').c1
          rw [Nat.mul_one] at f_0
          have hlt := List.pairwise_iff_getElem.1 k1.out (j - 1) j (by omega) hjl (by omega)
          have hz : ((j : Int) == 0) = false := beq_eq_false_iff_ne.2 (by omega)
          clear hrow
          generalize l[j - 1] = z at *
          generalize hu : l[j] = u at *
          replace hu := Lib.hid hu
          cases v
          all_goals
            go_wp2_with fail
            have y_e_0 := cell_regrown e_0
            clear e_0
            have y_f_0 := cell_regrown f_0
            clear f_0
            refine wp_region_plan (C := fun w' => ∃ p : Regrown, w' = grow (redrawn wr p.d) p.os) (.q 0 (.q 1 (.q 2 (.q 3 (.q 4 (.q 5 (.q 6 (.q 7 (.q 8 (.q 9 (.q 10 (.q 11 (.q 12 (.q 13 (.q 14 (.q 15 (.q 16 (.q 17 (.done))))))))))))))))))) 18 (by kernel_rfl) (by kernel_rfl) (grew_drew _) ?_
            repeat (any_goals (first | (go_big_quiet_skip; refine wpQuiet_nil ?_) | (go_big_quiet_want; go_big_quiet_op; go_big_quiet_on; refine wpQuiet_nil ?_) | ((with_reducible apply q_split); exact rfl; intro q hq; cases q <;> (rw [hq]; (try first | replace hq := bnot_t hq | replace hq := bnot_f hq); (try first | replace hq := of_decide_eq_true hq | replace hq := of_decide_eq_false hq | replace hq := eq_of_beq hq); (try first | replace hq := Int.not_lt.1 hq | replace hq := Int.not_le.1 hq | replace hq := Nat.not_lt.1 hq | replace hq := Nat.not_le.1 hq); try (exfalso; omega))) | (refine plan_q rfl rfl ?_)))
            clear y_e_0
            clear y_f_0
            all_goals refine plan_done ?_
            all_goals (try simp only [List.drop_succ_cons, List.drop_zero])
            all_goals (try go_wp2_with fail)
            all_goals refine NoPanic.normal ?_
            all_goals (try go_wp2_with fail)
            go_roundw
            case rel => exact ⟨j + 1, by omega, by go_num, rfl, by rw [HST.out]; rfl, HB_wr.drew⟩
            case measure => simp [intOf]; omega
      obtain rfl : j = l.length := by omega
      rw [List.take_length]
      generalize (l.any fun x => x == s) = v1 at *
      clear hj hjl
      go_wp2_with fail
      go_loopw [7, 14, 15] (fun u v i wr => ∃ j : Nat, j ≤ c.length ∧ i = .int .i64 j ∧ u = .bool true ∧ v = .bool ((c.take j).any fun x => x == s) ∧ Below w3.heap.size w3 wr) (fun _ _ i _ => c.length - (intOf i).toNat)
      case atStart => exact ⟨0, by omega, rfl, rfl, by simp, by first | exact HB_wr | exact Below.refl _ _⟩
      case round =>
        obtain ⟨j, hj, rfl, rfl, rfl, HB_wr⟩ := hrel
        by_cases hjl : j < c.length
        case pos =>
          obtain ⟨b', off, rfl, hb', hrow⟩ := HSC.out.get hjl
          have e_0 := ((hrow j hjl).below HB_wr hb').c1
          rw [Nat.mul_one] at e_0
          have HST := Lib.hid (any_step hjl s)
          generalize (c.take j).any (fun x => x == s) = v at *
          rcases Nat.eq_zero_or_pos j with h0 | h0
          · have hz : ((j : Int) == 0) = true := by rw [h0]; rfl
            replace h0 := Lib.hid h0
            clear hrow
            generalize hu : c[j] = u at *
            replace hu := Lib.hid hu
            cases v
            all_goals
              go_wp2_with fail
              have y_e_0 := cell_regrown e_0
              clear e_0
              refine wp_region_plan (C := fun w' => ∃ p : Regrown, w' = grow (redrawn wr p.d) p.os) (.q 0 (.q 1 (.q 2 (.q 3 (.q 4 (.q 5 (.q 6 (.q 7 (.q 8 (.q 9 (.q 10 (.q 11 (.q 12 (.q 13 (.q 14 (.q 15 (.q 16 (.q 17 (.done))))))))))))))))))) 18 (by kernel_rfl) (by kernel_rfl) (grew_drew _) ?_
              repeat (any_goals (first | (go_big_quiet_skip; refine wpQuiet_nil ?_) | (go_big_quiet_want; go_big_quiet_op; go_big_quiet_on; refine wpQuiet_nil ?_) | ((with_reducible apply q_split); exact rfl; intro q hq; cases q <;> (rw [hq]; (try first | replace hq := bnot_t hq | replace hq := bnot_f hq); (try first | replace hq := of_decide_eq_true hq | replace hq := of_decide_eq_false hq | replace hq := eq_of_beq hq); (try first | replace hq := Int.not_lt.1 hq | replace hq := Int.not_le.1 hq | replace hq := Nat.not_lt.1 hq | replace hq := Nat.not_le.1 hq); try (exfalso; omega))) | (refine plan_q rfl rfl ?_)))
              clear y_e_0
              all_goals refine plan_done ?_
              all_goals (try simp only [List.drop_succ_cons, List.drop_zero])
              all_goals (try go_wp2_with fail)
              all_goals refine NoPanic.normal ?_
              all_goals (try go_wp2_with fail)
              go_roundw
              case rel => exact ⟨j + 1, by omega, by go_num, rfl, by rw [HST.out]; rfl, HB_wr.drew⟩
              case measure => simp [intOf]; omega
          · have f_0 := ((hrow (j - 1) (by omega)).below HB_wr hb').c1
            rw [Nat.mul_one] at f_0
            have hlt := List.pairwise_iff_getElem.1 k2.out (j - 1) j (by omega) hjl (by omega)
            have hz : ((j : Int) == 0) = false := beq_eq_false_iff_ne.2 (by omega)
            clear hrow
            generalize c[j - 1] = z at *
            generalize hu : c[j] = u at *
            replace hu := Lib.hid hu
            cases v
            all_goals
              go_wp2_with fail
              have y_e_0 := cell_regrown e_0
              clear e_0
              have y_f_0 := cell_regrown f_0
              clear f_0
              refine wp_region_plan (C := fun w' => ∃ p : Regrown, w' = grow (redrawn wr p.d) p.os) (.q 0 (.q 1 (.q 2 (.q 3 (.q 4 (.q 5 (.q 6 (.q 7 (.q 8 (.q 9 (.q 10 (.q 11 (.q 12 (.q 13 (.q 14 (.q 15 (.q 16 (.q 17 (.done))))))))))))))))))) 18 (by kernel_rfl) (by kernel_rfl) (grew_drew _) ?_
              repeat (any_goals (first | (go_big_quiet_skip; refine wpQuiet_nil ?_) | (go_big_quiet_want; go_big_quiet_op; go_big_quiet_on; refine wpQuiet_nil ?_) | ((with_reducible apply q_split); exact rfl; intro q hq; cases q <;> (rw [hq]; (try first | replace hq := bnot_t hq | replace hq := bnot_f hq); (try first | replace hq := of_decide_eq_true hq | replace hq := of_decide_eq_false hq | replace hq := eq_of_beq hq); (try first | replace hq := Int.not_lt.1 hq | replace hq := Int.not_le.1 hq | replace hq := Nat.not_lt.1 hq | replace hq := Nat.not_le.1 hq); try (exfalso; omega))) | (refine plan_q rfl rfl ?_)))
              clear y_e_0
              clear y_f_0
              all_goals refine plan_done ?_
              all_goals (try simp only [List.drop_succ_cons, List.drop_zero])
              all_goals (try go_wp2_with fail)
              all_goals refine NoPanic.normal ?_
              all_goals (try go_wp2_with fail)
              go_roundw
              case rel => exact ⟨j + 1, by omega, by go_num, rfl, by rw [HST.out]; rfl, HB_wr.drew⟩
              case measure => simp [intOf]; omega
        obtain rfl : j = c.length := by omega
        rw [List.take_length]
        generalize (c.any fun x => x == s) = v2 at *
        clear hj hjl
        replace H_a := Lib.hid (H_a.out.below HB_wr)
        replace H_b := Lib.hid (H_b.out.below HB_wr)
        replace HSA := Lib.hid (HSA.out.below HB_wr)
        replace HSB := Lib.hid (HSB.out.below HB_wr)
        replace HB_wr := after0 HB_w3 HB_wr
        clear hcap hle hcapb hleb
        obtain ⟨q_a_0, q_a_1⟩ := H_a.out.c2
        obtain ⟨q_b_0, q_b_1⟩ := H_b.out.c2
        rcases k3.out with ⟨hg, rfl, rfl⟩ | ⟨rfl, rfl, rfl, rfl⟩ | ⟨rfl, rfl, rfl, rfl, hc, rfl⟩ | ⟨rfl, rfl, rfl, rfl, hc, rfl⟩
        all_goals
          go_wp2_with fail
          refine (find_to h3.out (by first | exact HSA.out | exact HSA.out.below (grew1 (Below.refl _ _)) | exact HSA.out.below (grew2 (Below.refl _ _)) | exact HSA.out.below (grew3 (Below.refl _ _)))).mono ?_
          rintro e w4 ⟨rfl, hb_w4⟩
          have HB_w4 : Below w.heap.size w w4 := by first | exact after0 HB_wr hb_w4 | exact after1 HB_wr hb_w4 | exact after2 HB_wr hb_w4 | exact after3 HB_wr hb_w4 | exact after4 HB_wr hb_w4 | exact after5 HB_wr hb_w4
          try clear q_a_0 q_a_1
          have H_a := Lib.hid (Box.below (by first | exact H_a.out | exact H_a.out.alloc _ | exact (H_a.out.alloc _).alloc _ | exact ((H_a.out.alloc _).alloc _).alloc _) hb_w4)
          obtain ⟨q_a_0, q_a_1⟩ := H_a.out.c2
          try clear q_b_0 q_b_1
          have H_b := Lib.hid (Box.below (by first | exact H_b.out | exact H_b.out.alloc _ | exact (H_b.out.alloc _).alloc _ | exact ((H_b.out.alloc _).alloc _).alloc _) hb_w4)
          obtain ⟨q_b_0, q_b_1⟩ := H_b.out.c2
          replace HSA := Lib.hid (show Sl w4 _ _ _ _ _ _ by first | exact HSA.out.below hb_w4 | exact (HSA.out.below (grew1 (Below.refl _ _))).below hb_w4 | exact (HSA.out.below (grew2 (Below.refl _ _))).below hb_w4 | exact (HSA.out.below (grew3 (Below.refl _ _))).below hb_w4)
          replace HSB := Lib.hid (show Sl w4 _ _ _ _ _ _ by first | exact HSB.out.below hb_w4 | exact (HSB.out.below (grew1 (Below.refl _ _))).below hb_w4 | exact (HSB.out.below (grew2 (Below.refl _ _))).below hb_w4 | exact (HSB.out.below (grew3 (Below.refl _ _))).below hb_w4)
          have H_m := Lib.hid (Box.new w4 [.int .i64 m0, .int .i64 m1, .int .i64 m2] 29)
          obtain ⟨z0, z1⟩ := (H_a.out.alloc (.cells #[.int .i64 m0, .int .i64 m1, .int .i64 m2] 29)).c2
          obtain ⟨z2, z3⟩ := (H_b.out.alloc (.cells #[.int .i64 m0, .int .i64 m1, .int .i64 m2] 29)).c2
          go_wp2_with fail
          clear z0 z1 z2 z3
          refine (translate_to h4.out (by first | exact HSA.out | exact HSA.out.below (grew1 (Below.refl _ _)) | exact HSA.out.below (grew2 (Below.refl _ _)) | exact HSA.out.below (grew3 (Below.refl _ _))) (by first | exact HSB.out | exact HSB.out.below (grew1 (Below.refl _ _)) | exact HSB.out.below (grew2 (Below.refl _ _)) | exact HSB.out.below (grew3 (Below.refl _ _)))).mono ?_
          rintro e w5 ⟨rfl, hb_w5⟩
          have HB_w5 : Below w.heap.size w w5 := by first | exact after0 HB_w4 hb_w5 | exact after1 HB_w4 hb_w5 | exact after2 HB_w4 hb_w5 | exact after3 HB_w4 hb_w5 | exact after4 HB_w4 hb_w5 | exact after5 HB_w4 hb_w5
          try clear q_a_0 q_a_1
          have H_a := Lib.hid (Box.below (by first | exact H_a.out | exact H_a.out.alloc _ | exact (H_a.out.alloc _).alloc _ | exact ((H_a.out.alloc _).alloc _).alloc _) hb_w5)
          obtain ⟨q_a_0, q_a_1⟩ := H_a.out.c2
          try clear q_b_0 q_b_1
          have H_b := Lib.hid (Box.below (by first | exact H_b.out | exact H_b.out.alloc _ | exact (H_b.out.alloc _).alloc _ | exact ((H_b.out.alloc _).alloc _).alloc _) hb_w5)
          obtain ⟨q_b_0, q_b_1⟩ := H_b.out.c2
          try clear q_m_0 q_m_1 q_m_2
          have H_m := Lib.hid (Box.below (by first | exact H_m.out | exact H_m.out.alloc _ | exact (H_m.out.alloc _).alloc _ | exact ((H_m.out.alloc _).alloc _).alloc _) hb_w5)
          obtain ⟨q_m_0, q_m_1, q_m_2⟩ := H_m.out.c3
          replace HSA := Lib.hid (show Sl w5 _ _ _ _ _ _ by first | exact HSA.out.below hb_w5 | exact (HSA.out.below (grew1 (Below.refl _ _))).below hb_w5 | exact (HSA.out.below (grew2 (Below.refl _ _))).below hb_w5 | exact (HSA.out.below (grew3 (Below.refl _ _))).below hb_w5)
          replace HSB := Lib.hid (show Sl w5 _ _ _ _ _ _ by first | exact HSB.out.below hb_w5 | exact (HSB.out.below (grew1 (Below.refl _ _))).below hb_w5 | exact (HSB.out.below (grew2 (Below.refl _ _))).below hb_w5 | exact (HSB.out.below (grew3 (Below.refl _ _))).below hb_w5)
          go_wp2_with fail
          all_goals try (exfalso; omega)
          try (go_ret; exact ⟨rfl, HB_w5⟩)
        all_goals
          refine (find_to h5.out (by first | exact HSB.out | exact HSB.out.below (grew1 (Below.refl _ _)) | exact HSB.out.below (grew2 (Below.refl _ _)) | exact HSB.out.below (grew3 (Below.refl _ _)))).mono ?_
          rintro e w6 ⟨rfl, hb_w6⟩
          have HB_w6 : Below w.heap.size w w6 := by first | exact after0 HB_w5 hb_w6 | exact after1 HB_w5 hb_w6 | exact after2 HB_w5 hb_w6 | exact after3 HB_w5 hb_w6 | exact after4 HB_w5 hb_w6 | exact after5 HB_w5 hb_w6
          try clear q_m_0 q_m_1 q_m_2
          have H_m := Lib.hid (Box.below (by first | exact H_m.out | exact H_m.out.alloc _ | exact (H_m.out.alloc _).alloc _ | exact ((H_m.out.alloc _).alloc _).alloc _) hb_w6)
          obtain ⟨q_m_0, q_m_1, q_m_2⟩ := H_m.out.c3
          clear q_m_0 q_m_1 q_m_2 q_a_0 q_a_1 q_b_0 q_b_1
          obtain ⟨W2, hW2, HB_W2, hZ, hY⟩ := boxes1 w6 [.int .i64 x0, .int .i64 x1, .int .i64 x2] 29
          have H_x := Lib.hid hY
          replace H_m := Lib.hid (H_m.out.below HB_W2)
          replace HB_W2 := after0 HB_w6 HB_W2
          clear hY hZ
          obtain ⟨q_m_0, q_m_1, q_m_2⟩ := H_m.out.c3
          obtain ⟨q_x_0, q_x_1, q_x_2⟩ := H_x.out.c3
          go_wp2_with fail
          all_goals try (exfalso; omega)
          all_goals try (go_ret; first | exact ⟨rfl, HB_W2⟩ | (refine ⟨ret_bool ?_, HB_W2⟩; simp; omega))
end Go.Proofs.Ytmnlkndbdcdngaa
