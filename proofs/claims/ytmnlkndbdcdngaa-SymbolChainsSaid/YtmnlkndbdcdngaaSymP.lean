/-
  'SymbolChains': plain law and walk.
-/
import Derived.Test.YtmnlkndbdcdngaaSymN
namespace Sb
theorem chain_one {oa : Int} {a : List Mk} {s : Int} : chain [(oa, a)] s = if okB oa a && okS s then match lookM a s with | some m => ((m.sy, 0) : Int × Int) | none => ((0, 11) : Int × Int) else ((0, 1) : Int × Int) := by
  simp only [chain, List.length_cons, List.length_nil, List.all_cons, List.all_nil, Bool.and_true, chainGo]
  rw [show decide (0 + 1 ≤ 20) = true from rfl, Bool.true_and, Bool.and_comm]
  rfl
theorem chain_two {oa ob : Int} {a b : List Mk} {s : Int} : chain [(oa, a), (ob, b)] s = if okS s && (okB oa a && okB ob b) then match lookM a s with | some m => (if found (trans b m) then ((trans b m).sy, 0) else ((0, 4) : Int × Int)) | none => ((0, 11) : Int × Int) else ((0, 1) : Int × Int) := by
  simp only [chain, List.length_cons, List.length_nil, List.all_cons, List.all_nil, Bool.and_true, chainGo]
  rw [show decide (0 + 1 + 1 ≤ 20) = true from rfl, Bool.true_and]
  rfl
theorem chain_three {oa ob oc : Int} {a b c : List Mk} {s : Int} : chain [(oa, a), (ob, b), (oc, c)] s = if okS s && (okB oa a && (okB ob b && okB oc c)) then match lookM a s with | some m => (if found (trans b m) then (if found (trans c (trans b m)) then ((trans c (trans b m)).sy, 0) else ((0, 4) : Int × Int)) else ((0, 4) : Int × Int)) | none => ((0, 11) : Int × Int) else ((0, 1) : Int × Int) := by
  simp only [chain, List.length_cons, List.length_nil, List.all_cons, List.all_nil, Bool.and_true, chainGo]
  rw [show decide (0 + 1 + 1 + 1 ≤ 20) = true from rfl, Bool.true_and]
  rfl

theorem chains_law {oa ob oc s own e x g y h z i f k l n : Int} {a b c : List Mk} {m p q o : Mk} (h1 : chain [(oa, a)] s = (own, e)) (h2 : findF oa a s = (m, f)) (h3 : chain [(oa, a), (ob, b), (oc, c)] s = (x, g)) (h4 : chain [(oa, a), (ob, b)] s = (y, h))
    (h5 : translate oa a oc c s = (z, i)) (h6 : findF oc c x = (p, k)) (h7 : findF ob b y = (q, l)) (h8 : findF oc c z = (o, n)) :
    (e = f ∧ f ≠ 0 ∧ g ≠ 0 ∧ x = 0) ∨ (e = 0 ∧ f = 0 ∧ own = s ∧ g ≠ 0 ∧ x = 0) ∨
    (e = 0 ∧ f = 0 ∧ own = s ∧ g = 0 ∧ h = 0 ∧ i = 0 ∧ k = 0 ∧ l = 0 ∧ n = 0 ∧ p.kd = m.kd ∧ q.kd = m.kd ∧ q.cl ≤ p.cl ∧ m.cl ≤ q.cl ∧ o.cl ≤ p.cl) := by
  rw [chain_one] at h1
  rw [chain_three] at h3
  rw [chain_two] at h4
  cases ha : okB oa a && okS s with
  | false =>
    left
    rw [ha, if_neg (by simp)] at h1
    obtain ⟨rfl, rfl⟩ := Prod.mk.inj h1
    unfold findF at h2
    rw [ha, if_neg (by simp)] at h2
    obtain ⟨rfl, rfl⟩ := Prod.mk.inj h2
    rw [if_neg (by
      intro hh
      simp only [Bool.and_eq_true] at hh
      rw [hh.1, hh.2.1] at ha
      cases ha)] at h3
    obtain ⟨rfl, rfl⟩ := Prod.mk.inj h3
    exact ⟨rfl, by decide, by decide, rfl⟩
  | true =>
    rw [ha, if_pos rfl] at h1
    have hf := h2
    unfold findF at hf
    rw [ha, if_pos rfl] at hf
    simp only [Bool.and_eq_true] at ha
    cases hl : lookM a s with
    | none =>
      left
      rw [hl] at h1 h3 hf
      obtain ⟨rfl, rfl⟩ := Prod.mk.inj h1
      obtain ⟨rfl, rfl⟩ := Prod.mk.inj hf
      refine ⟨rfl, by decide, ?_⟩
      split at h3
      · obtain ⟨rfl, rfl⟩ := Prod.mk.inj h3; exact ⟨by decide, rfl⟩
      · obtain ⟨rfl, rfl⟩ := Prod.mk.inj h3; exact ⟨by decide, rfl⟩
    | some m' =>
      right
      rw [hl] at h1 h3 h4 hf
      obtain ⟨rfl, rfl⟩ := Prod.mk.inj h1
      obtain ⟨rfl, rfl⟩ := Prod.mk.inj hf
      obtain ⟨hm, hms⟩ := lookM_some hl
      by_cases hb : (okS s && (okB oa a && (okB ob b && okB oc c))) = true
      · rw [if_pos hb] at h3
        simp only [Bool.and_eq_true] at hb
        obtain ⟨hs, _, hb, hc⟩ := hb
        rw [if_pos (by rw [hs, ha.1, hb]; rfl)] at h4
        dsimp only at h3 h4
        cases ht : found (trans b m') with
        | false =>
          left
          rw [ht, if_neg (by simp)] at h3
          obtain ⟨rfl, rfl⟩ := Prod.mk.inj h3
          exact ⟨rfl, rfl, hms, by decide, rfl⟩
        | true =>
          rw [ht, if_pos rfl] at h3 h4
          obtain ⟨rfl, rfl⟩ := Prod.mk.inj h4
          obtain ⟨k1, k2, k3, k4⟩ := trans_found (vok hb) ht
          cases hu : found (trans c (trans b m')) with
          | false =>
            left
            rw [hu, if_neg (by simp)] at h3
            obtain ⟨rfl, rfl⟩ := Prod.mk.inj h3
            exact ⟨rfl, rfl, hms, by decide, rfl⟩
          | true =>
            right
            rw [hu, if_pos rfl] at h3
            obtain ⟨rfl, rfl⟩ := Prod.mk.inj h3
            obtain ⟨l1, l2, l3, l4⟩ := trans_found (vok hc) hu
            have hv := trans_there (vok hc) l1 (m := m') (by omega) (by omega)
            obtain ⟨n1, n2, n3, n4⟩ := trans_found (vok hc) hv
            unfold translate at h5
            rw [if_pos (by rw [ha.1, hc, hs]; rfl), hl] at h5
            dsimp only at h5
            rw [if_pos hv] at h5
            obtain ⟨rfl, rfl⟩ := Prod.mk.inj h5
            rw [find_mem hc l1] at h6
            rw [find_mem hb k1] at h7
            rw [find_mem hc n1] at h8
            obtain ⟨rfl, rfl⟩ := Prod.mk.inj h6
            obtain ⟨rfl, rfl⟩ := Prod.mk.inj h7
            obtain ⟨rfl, rfl⟩ := Prod.mk.inj h8
            exact ⟨rfl, rfl, hms, rfl, rfl, rfl, rfl, rfl, rfl, by omega, k2, by omega, k3, n4 _ l1 (by omega) (by omega)⟩
      · left
        rw [if_neg hb] at h3
        obtain ⟨rfl, rfl⟩ := Prod.mk.inj h3
        exact ⟨rfl, rfl, hms, by decide, rfl⟩
end Sb
namespace Go.Proofs.Ytmnlkndbdcdngaa
open Go.RowKit Sb Sk Go.Sort
set_option linter.unusedVariables false

section
variable {w : World} {oa ob oc s x e : Int} {ax bx cx : Option Addr} {na ca nb cb nc cc B T : Nat} {a b c : List Mk}
theorem chain_to1 (h : chain [(oa, a)] s = (x, e)) (hs : Sl w 3 cM ax na ca a) (hb : Box w B T [.int .i64 oa, .slice ax na ca]) :
    Calls Try.prog 23 #[.slice (some ⟨B, 0, none⟩) 1 1, .int .i64 s] w (Ret w (.tuple #[.int .i64 x, .int .i64 e])) := by
  have := Chain_any (some ⟨B, 0, none⟩) 1 1 [⟨oa, ax, na, ca, a⟩] s w (Sl.lit (l := [(⟨oa, ax, na, ca, a⟩ : Bk)]) cB_len hb (by simp [maxLen])) (by
    intro u hu
    simp only [List.mem_cons, List.not_mem_nil, or_false] at hu
    subst hu
    exact hs)
  rwa [show chain (List.map plainB [⟨oa, ax, na, ca, a⟩]) s = (x, e) from h] at this
theorem chain_to2 (h : chain [(oa, a), (ob, b)] s = (x, e)) (hs : Sl w 3 cM ax na ca a) (ht : Sl w 3 cM bx nb cb b) (hb : Box w B T [.int .i64 oa, .slice ax na ca, .int .i64 ob, .slice bx nb cb]) :
    Calls Try.prog 23 #[.slice (some ⟨B, 0, none⟩) 2 2, .int .i64 s] w (Ret w (.tuple #[.int .i64 x, .int .i64 e])) := by
  have := Chain_any (some ⟨B, 0, none⟩) 2 2 [⟨oa, ax, na, ca, a⟩, ⟨ob, bx, nb, cb, b⟩] s w (Sl.lit (l := [(⟨oa, ax, na, ca, a⟩ : Bk), ⟨ob, bx, nb, cb, b⟩]) cB_len hb (by simp [maxLen])) (by
    intro u hu
    simp only [List.mem_cons, List.not_mem_nil, or_false] at hu
    rcases hu with rfl | rfl
    · exact hs
    · exact ht)
  rwa [show chain (List.map plainB [⟨oa, ax, na, ca, a⟩, ⟨ob, bx, nb, cb, b⟩]) s = (x, e) from h] at this
theorem chain_to3 (h : chain [(oa, a), (ob, b), (oc, c)] s = (x, e)) (hs : Sl w 3 cM ax na ca a) (ht : Sl w 3 cM bx nb cb b) (hu : Sl w 3 cM cx nc cc c) (hb : Box w B T [.int .i64 oa, .slice ax na ca, .int .i64 ob, .slice bx nb cb, .int .i64 oc, .slice cx nc cc]) :
    Calls Try.prog 23 #[.slice (some ⟨B, 0, none⟩) 3 3, .int .i64 s] w (Ret w (.tuple #[.int .i64 x, .int .i64 e])) := by
  have := Chain_any (some ⟨B, 0, none⟩) 3 3 [⟨oa, ax, na, ca, a⟩, ⟨ob, bx, nb, cb, b⟩, ⟨oc, cx, nc, cc, c⟩] s w (Sl.lit (l := [(⟨oa, ax, na, ca, a⟩ : Bk), ⟨ob, bx, nb, cb, b⟩, ⟨oc, cx, nc, cc, c⟩]) cB_len hb (by simp [maxLen])) (by
    intro u hu'
    simp only [List.mem_cons, List.not_mem_nil, or_false] at hu'
    rcases hu' with rfl | rfl | rfl
    · exact hs
    · exact ht
    · exact hu)
  rwa [show chain (List.map plainB [⟨oa, ax, na, ca, a⟩, ⟨ob, bx, nb, cb, b⟩, ⟨oc, cx, nc, cc, c⟩]) s = (x, e) from h] at this
end
theorem chain_ex (bs : List (Int × List Mk)) (s : Int) : ∃ x e, chain bs s = (x, e) := ⟨_, _, rfl⟩


set_option maxRecDepth 100000 in
set_option maxHeartbeats 8000000 in
theorem chains_walk (oa : Int) (aa : Option Addr) (na ca : Nat) (a : List Mk) (ob : Int) (ab : Option Addr) (nb cb : Nat) (b : List Mk) (oc : Int) (ac : Option Addr) (nc cc : Nat) (c : List Mk) (s : Int) (w : World)
    (ha : Sl w 3 cM aa na ca a) (hb : Sl w 3 cM ab nb cb b) (hc : Sl w 3 cM ac nc cc c) :
    Calls Try.prog 6 #[.agg #[.int .i64 oa, .slice aa na ca], .agg #[.int .i64 ob, .slice ab nb cb], .agg #[.int .i64 oc, .slice ac nc cc], .int .i64 s] w (Ret w (.bool true)) := by
  obtain ⟨own, e, h1⟩ := chain_ex [(oa, a)] s
  obtain ⟨m0, m1, m2, f, h2⟩ := find_ex oa a s
  obtain ⟨x, g, h3⟩ := chain_ex [(oa, a), (ob, b), (oc, c)] s
  obtain ⟨y, h, h4⟩ := chain_ex [(oa, a), (ob, b)] s
  obtain ⟨z, i, h5⟩ := translate_ex oa a oc c s
  obtain ⟨p0, p1, p2, k, h6⟩ := find_ex oc c x
  obtain ⟨q0, q1, q2, l, h7⟩ := find_ex ob b y
  obtain ⟨o0, o1, o2, n, h8⟩ := find_ex oc c z
  have HLAW := chains_law h1 h2 h3 h4 h5 h6 h7 h8
  replace h1 := Lib.hid h1
  replace h2 := Lib.hid h2
  replace h3 := Lib.hid h3
  replace h4 := Lib.hid h4
  replace h5 := Lib.hid h5
  replace h6 := Lib.hid h6
  replace h7 := Lib.hid h7
  replace h8 := Lib.hid h8
  obtain ⟨W0, hW0, HB_W0, hZ, hA, hB, hC⟩ := boxes3 w [.int .i64 oa, .slice aa na ca] [.int .i64 ob, .slice ab nb cb] [.int .i64 oc, .slice ac nc cc] 24 24 24
  have H_a := Lib.hid hA
  have H_b := Lib.hid hB
  have H_c := Lib.hid hC
  have HSA := Lib.hid (ha.below HB_W0)
  have HSB := Lib.hid (hb.below HB_W0)
  have HSC := Lib.hid (hc.below HB_W0)
  clear ha hb hc hA hB hC hZ
  rcases HLAW with ⟨rfl, k2, k3, rfl⟩ | ⟨rfl, rfl, rfl, k4, rfl⟩ | ⟨rfl, rfl, rfl, rfl, rfl, rfl, rfl, rfl, rfl, k1, k2, k3, k4, k5⟩
  ·
    go_enter Try.func6, Try.ntmps6
    go_wp2_with fail
    refine (head_any _).mono ?_
    rintro e w1 ⟨rfl, hb_w1⟩
    have HB_w1 : Below w.heap.size w w1 := by first | exact after0 HB_W0 hb_w1 | exact after1 HB_W0 hb_w1 | exact after2 HB_W0 hb_w1 | exact after3 HB_W0 hb_w1 | exact after4 HB_W0 hb_w1 | exact after5 HB_W0 hb_w1
    try clear q_a_0 q_a_1
    have H_a := Lib.hid (Box.below (by first | exact H_a.out | exact H_a.out.alloc _ | exact (H_a.out.alloc _).alloc _ | exact ((H_a.out.alloc _).alloc _).alloc _) hb_w1)
    obtain ⟨q_a_0, q_a_1⟩ := H_a.out.c2
    try clear q_b_0 q_b_1
    have H_b := Lib.hid (Box.below (by first | exact H_b.out | exact H_b.out.alloc _ | exact (H_b.out.alloc _).alloc _ | exact ((H_b.out.alloc _).alloc _).alloc _) hb_w1)
    obtain ⟨q_b_0, q_b_1⟩ := H_b.out.c2
    try clear q_c_0 q_c_1
    have H_c := Lib.hid (Box.below (by first | exact H_c.out | exact H_c.out.alloc _ | exact (H_c.out.alloc _).alloc _ | exact ((H_c.out.alloc _).alloc _).alloc _) hb_w1)
    obtain ⟨q_c_0, q_c_1⟩ := H_c.out.c2
    replace HSA := Lib.hid (show Sl w1 _ _ _ _ _ _ by first | exact HSA.out.below hb_w1 | exact (HSA.out.below (grew1 (Below.refl _ _))).below hb_w1 | exact (HSA.out.below (grew2 (Below.refl _ _))).below hb_w1 | exact (HSA.out.below (grew3 (Below.refl _ _))).below hb_w1)
    replace HSB := Lib.hid (show Sl w1 _ _ _ _ _ _ by first | exact HSB.out.below hb_w1 | exact (HSB.out.below (grew1 (Below.refl _ _))).below hb_w1 | exact (HSB.out.below (grew2 (Below.refl _ _))).below hb_w1 | exact (HSB.out.below (grew3 (Below.refl _ _))).below hb_w1)
    replace HSC := Lib.hid (show Sl w1 _ _ _ _ _ _ by first | exact HSC.out.below hb_w1 | exact (HSC.out.below (grew1 (Below.refl _ _))).below hb_w1 | exact (HSC.out.below (grew2 (Below.refl _ _))).below hb_w1 | exact (HSC.out.below (grew3 (Below.refl _ _))).below hb_w1)
    clear hW0
    go_wp2_with fail
    refine (chain_to1 h1.out (by first | exact HSA.out | exact HSA.out.below (grew1 (Below.refl _ _)) | exact HSA.out.below (grew2 (Below.refl _ _)) | exact HSA.out.below (grew3 (Below.refl _ _))) (Box.new w1 [.int .i64 oa, .slice aa na ca] 24)).mono ?_
    rintro e w2 ⟨rfl, hb_w2⟩
    have HB_w2 : Below w.heap.size w w2 := by first | exact after0 HB_w1 hb_w2 | exact after1 HB_w1 hb_w2 | exact after2 HB_w1 hb_w2 | exact after3 HB_w1 hb_w2 | exact after4 HB_w1 hb_w2 | exact after5 HB_w1 hb_w2
    try clear q_a_0 q_a_1
    have H_a := Lib.hid (Box.below (by first | exact H_a.out | exact H_a.out.alloc _ | exact (H_a.out.alloc _).alloc _ | exact ((H_a.out.alloc _).alloc _).alloc _) hb_w2)
    obtain ⟨q_a_0, q_a_1⟩ := H_a.out.c2
    try clear q_b_0 q_b_1
    have H_b := Lib.hid (Box.below (by first | exact H_b.out | exact H_b.out.alloc _ | exact (H_b.out.alloc _).alloc _ | exact ((H_b.out.alloc _).alloc _).alloc _) hb_w2)
    obtain ⟨q_b_0, q_b_1⟩ := H_b.out.c2
    try clear q_c_0 q_c_1
    have H_c := Lib.hid (Box.below (by first | exact H_c.out | exact H_c.out.alloc _ | exact (H_c.out.alloc _).alloc _ | exact ((H_c.out.alloc _).alloc _).alloc _) hb_w2)
    obtain ⟨q_c_0, q_c_1⟩ := H_c.out.c2
    replace HSA := Lib.hid (show Sl w2 _ _ _ _ _ _ by first | exact HSA.out.below hb_w2 | exact (HSA.out.below (grew1 (Below.refl _ _))).below hb_w2 | exact (HSA.out.below (grew2 (Below.refl _ _))).below hb_w2 | exact (HSA.out.below (grew3 (Below.refl _ _))).below hb_w2)
    replace HSB := Lib.hid (show Sl w2 _ _ _ _ _ _ by first | exact HSB.out.below hb_w2 | exact (HSB.out.below (grew1 (Below.refl _ _))).below hb_w2 | exact (HSB.out.below (grew2 (Below.refl _ _))).below hb_w2 | exact (HSB.out.below (grew3 (Below.refl _ _))).below hb_w2)
    replace HSC := Lib.hid (show Sl w2 _ _ _ _ _ _ by first | exact HSC.out.below hb_w2 | exact (HSC.out.below (grew1 (Below.refl _ _))).below hb_w2 | exact (HSC.out.below (grew2 (Below.refl _ _))).below hb_w2 | exact (HSC.out.below (grew3 (Below.refl _ _))).below hb_w2)
    go_wp2_with fail
    refine (find_to h2.out (by first | exact HSA.out | exact HSA.out.below (grew1 (Below.refl _ _)) | exact HSA.out.below (grew2 (Below.refl _ _)) | exact HSA.out.below (grew3 (Below.refl _ _)))).mono ?_
    rintro e w3 ⟨rfl, hb_w3⟩
    have HB_w3 : Below w.heap.size w w3 := by first | exact after0 HB_w2 hb_w3 | exact after1 HB_w2 hb_w3 | exact after2 HB_w2 hb_w3 | exact after3 HB_w2 hb_w3 | exact after4 HB_w2 hb_w3 | exact after5 HB_w2 hb_w3
    try clear q_a_0 q_a_1
    have H_a := Lib.hid (Box.below (by first | exact H_a.out | exact H_a.out.alloc _ | exact (H_a.out.alloc _).alloc _ | exact ((H_a.out.alloc _).alloc _).alloc _) hb_w3)
    obtain ⟨q_a_0, q_a_1⟩ := H_a.out.c2
    try clear q_b_0 q_b_1
    have H_b := Lib.hid (Box.below (by first | exact H_b.out | exact H_b.out.alloc _ | exact (H_b.out.alloc _).alloc _ | exact ((H_b.out.alloc _).alloc _).alloc _) hb_w3)
    obtain ⟨q_b_0, q_b_1⟩ := H_b.out.c2
    try clear q_c_0 q_c_1
    have H_c := Lib.hid (Box.below (by first | exact H_c.out | exact H_c.out.alloc _ | exact (H_c.out.alloc _).alloc _ | exact ((H_c.out.alloc _).alloc _).alloc _) hb_w3)
    obtain ⟨q_c_0, q_c_1⟩ := H_c.out.c2
    replace HSA := Lib.hid (show Sl w3 _ _ _ _ _ _ by first | exact HSA.out.below hb_w3 | exact (HSA.out.below (grew1 (Below.refl _ _))).below hb_w3 | exact (HSA.out.below (grew2 (Below.refl _ _))).below hb_w3 | exact (HSA.out.below (grew3 (Below.refl _ _))).below hb_w3)
    replace HSB := Lib.hid (show Sl w3 _ _ _ _ _ _ by first | exact HSB.out.below hb_w3 | exact (HSB.out.below (grew1 (Below.refl _ _))).below hb_w3 | exact (HSB.out.below (grew2 (Below.refl _ _))).below hb_w3 | exact (HSB.out.below (grew3 (Below.refl _ _))).below hb_w3)
    replace HSC := Lib.hid (show Sl w3 _ _ _ _ _ _ by first | exact HSC.out.below hb_w3 | exact (HSC.out.below (grew1 (Below.refl _ _))).below hb_w3 | exact (HSC.out.below (grew2 (Below.refl _ _))).below hb_w3 | exact (HSC.out.below (grew3 (Below.refl _ _))).below hb_w3)
    obtain ⟨W1, hW1, HB_W1, hZ, hM, H_z⟩ := boxes2 w3 [.int .i64 m0, .int .i64 m1, .int .i64 m2] [.int .i64 oa, .slice aa na ca, .int .i64 ob, .slice ab nb cb, .int .i64 oc, .slice ac nc cc] 29 24
    have H_m := Lib.hid hM
    replace H_z := Lib.hid H_z
    obtain ⟨z0, z1⟩ := (H_a.out.alloc (.cells #[.int .i64 m0, .int .i64 m1, .int .i64 m2] 29)).c2
    obtain ⟨z2, z3⟩ := (H_b.out.alloc (.cells #[.int .i64 m0, .int .i64 m1, .int .i64 m2] 29)).c2
    obtain ⟨z4, z5⟩ := (H_c.out.alloc (.cells #[.int .i64 m0, .int .i64 m1, .int .i64 m2] 29)).c2
    replace H_a := Lib.hid (H_a.out.below HB_W1)
    replace H_b := Lib.hid (H_b.out.below HB_W1)
    replace H_c := Lib.hid (H_c.out.below HB_W1)
    replace HSA := Lib.hid (HSA.out.below HB_W1)
    replace HSB := Lib.hid (HSB.out.below HB_W1)
    replace HSC := Lib.hid (HSC.out.below HB_W1)
    replace HB_W1 := after0 HB_w3 HB_W1
    clear hM hZ q_a_0 q_a_1 q_b_0 q_b_1 q_c_0 q_c_1
    go_wp2_with fail
    all_goals try (exfalso; omega)
    clear z0 z1 z2 z3 z4 z5 hW1
    refine (chain_to3 h3.out (by first | exact HSA.out | exact HSA.out.below (grew1 (Below.refl _ _)) | exact HSA.out.below (grew2 (Below.refl _ _)) | exact HSA.out.below (grew3 (Below.refl _ _))) (by first | exact HSB.out | exact HSB.out.below (grew1 (Below.refl _ _)) | exact HSB.out.below (grew2 (Below.refl _ _)) | exact HSB.out.below (grew3 (Below.refl _ _))) (by first | exact HSC.out | exact HSC.out.below (grew1 (Below.refl _ _)) | exact HSC.out.below (grew2 (Below.refl _ _)) | exact HSC.out.below (grew3 (Below.refl _ _))) H_z.out).mono ?_
    rintro e w4 ⟨rfl, hb_w4⟩
    have HB_w4 : Below w.heap.size w w4 := by first | exact after0 HB_W1 hb_w4 | exact after1 HB_W1 hb_w4 | exact after2 HB_W1 hb_w4 | exact after3 HB_W1 hb_w4 | exact after4 HB_W1 hb_w4 | exact after5 HB_W1 hb_w4
    try clear q_a_0 q_a_1
    have H_a := Lib.hid (Box.below (by first | exact H_a.out | exact H_a.out.alloc _ | exact (H_a.out.alloc _).alloc _ | exact ((H_a.out.alloc _).alloc _).alloc _) hb_w4)
    obtain ⟨q_a_0, q_a_1⟩ := H_a.out.c2
    try clear q_b_0 q_b_1
    have H_b := Lib.hid (Box.below (by first | exact H_b.out | exact H_b.out.alloc _ | exact (H_b.out.alloc _).alloc _ | exact ((H_b.out.alloc _).alloc _).alloc _) hb_w4)
    obtain ⟨q_b_0, q_b_1⟩ := H_b.out.c2
    try clear q_c_0 q_c_1
    have H_c := Lib.hid (Box.below (by first | exact H_c.out | exact H_c.out.alloc _ | exact (H_c.out.alloc _).alloc _ | exact ((H_c.out.alloc _).alloc _).alloc _) hb_w4)
    obtain ⟨q_c_0, q_c_1⟩ := H_c.out.c2
    try clear q_m_0 q_m_1 q_m_2
    have H_m := Lib.hid (Box.below (by first | exact H_m.out | exact H_m.out.alloc _ | exact (H_m.out.alloc _).alloc _ | exact ((H_m.out.alloc _).alloc _).alloc _) hb_w4)
    obtain ⟨q_m_0, q_m_1, q_m_2⟩ := H_m.out.c3
    replace HSA := Lib.hid (show Sl w4 _ _ _ _ _ _ by first | exact HSA.out.below hb_w4 | exact (HSA.out.below (grew1 (Below.refl _ _))).below hb_w4 | exact (HSA.out.below (grew2 (Below.refl _ _))).below hb_w4 | exact (HSA.out.below (grew3 (Below.refl _ _))).below hb_w4)
    replace HSB := Lib.hid (show Sl w4 _ _ _ _ _ _ by first | exact HSB.out.below hb_w4 | exact (HSB.out.below (grew1 (Below.refl _ _))).below hb_w4 | exact (HSB.out.below (grew2 (Below.refl _ _))).below hb_w4 | exact (HSB.out.below (grew3 (Below.refl _ _))).below hb_w4)
    replace HSC := Lib.hid (show Sl w4 _ _ _ _ _ _ by first | exact HSC.out.below hb_w4 | exact (HSC.out.below (grew1 (Below.refl _ _))).below hb_w4 | exact (HSC.out.below (grew2 (Below.refl _ _))).below hb_w4 | exact (HSC.out.below (grew3 (Below.refl _ _))).below hb_w4)
    go_wp2_with fail
    refine (chain_to2 h4.out (by first | exact HSA.out | exact HSA.out.below (grew1 (Below.refl _ _)) | exact HSA.out.below (grew2 (Below.refl _ _)) | exact HSA.out.below (grew3 (Below.refl _ _))) (by first | exact HSB.out | exact HSB.out.below (grew1 (Below.refl _ _)) | exact HSB.out.below (grew2 (Below.refl _ _)) | exact HSB.out.below (grew3 (Below.refl _ _))) (Box.new w4 [.int .i64 oa, .slice aa na ca, .int .i64 ob, .slice ab nb cb] 24)).mono ?_
    rintro e w5 ⟨rfl, hb_w5⟩
    have HB_w5 : Below w.heap.size w w5 := by first | exact after0 HB_w4 hb_w5 | exact after1 HB_w4 hb_w5 | exact after2 HB_w4 hb_w5 | exact after3 HB_w4 hb_w5 | exact after4 HB_w4 hb_w5 | exact after5 HB_w4 hb_w5
    try clear q_a_0 q_a_1
    have H_a := Lib.hid (Box.below (by first | exact H_a.out | exact H_a.out.alloc _ | exact (H_a.out.alloc _).alloc _ | exact ((H_a.out.alloc _).alloc _).alloc _) hb_w5)
    obtain ⟨q_a_0, q_a_1⟩ := H_a.out.c2
    try clear q_b_0 q_b_1
    have H_b := Lib.hid (Box.below (by first | exact H_b.out | exact H_b.out.alloc _ | exact (H_b.out.alloc _).alloc _ | exact ((H_b.out.alloc _).alloc _).alloc _) hb_w5)
    obtain ⟨q_b_0, q_b_1⟩ := H_b.out.c2
    try clear q_c_0 q_c_1
    have H_c := Lib.hid (Box.below (by first | exact H_c.out | exact H_c.out.alloc _ | exact (H_c.out.alloc _).alloc _ | exact ((H_c.out.alloc _).alloc _).alloc _) hb_w5)
    obtain ⟨q_c_0, q_c_1⟩ := H_c.out.c2
    try clear q_m_0 q_m_1 q_m_2
    have H_m := Lib.hid (Box.below (by first | exact H_m.out | exact H_m.out.alloc _ | exact (H_m.out.alloc _).alloc _ | exact ((H_m.out.alloc _).alloc _).alloc _) hb_w5)
    obtain ⟨q_m_0, q_m_1, q_m_2⟩ := H_m.out.c3
    replace HSA := Lib.hid (show Sl w5 _ _ _ _ _ _ by first | exact HSA.out.below hb_w5 | exact (HSA.out.below (grew1 (Below.refl _ _))).below hb_w5 | exact (HSA.out.below (grew2 (Below.refl _ _))).below hb_w5 | exact (HSA.out.below (grew3 (Below.refl _ _))).below hb_w5)
    replace HSB := Lib.hid (show Sl w5 _ _ _ _ _ _ by first | exact HSB.out.below hb_w5 | exact (HSB.out.below (grew1 (Below.refl _ _))).below hb_w5 | exact (HSB.out.below (grew2 (Below.refl _ _))).below hb_w5 | exact (HSB.out.below (grew3 (Below.refl _ _))).below hb_w5)
    replace HSC := Lib.hid (show Sl w5 _ _ _ _ _ _ by first | exact HSC.out.below hb_w5 | exact (HSC.out.below (grew1 (Below.refl _ _))).below hb_w5 | exact (HSC.out.below (grew2 (Below.refl _ _))).below hb_w5 | exact (HSC.out.below (grew3 (Below.refl _ _))).below hb_w5)
    go_wp2_with fail
    all_goals try (exfalso; omega)
    all_goals try (go_ret; first | exact ⟨rfl, HB_w5⟩ | (refine ⟨ret_bool ?_, HB_w5⟩; simp; omega))
  ·
    go_enter Try.func6, Try.ntmps6
    go_wp2_with fail
    refine (head_any _).mono ?_
    rintro e w1 ⟨rfl, hb_w1⟩
    have HB_w1 : Below w.heap.size w w1 := by first | exact after0 HB_W0 hb_w1 | exact after1 HB_W0 hb_w1 | exact after2 HB_W0 hb_w1 | exact after3 HB_W0 hb_w1 | exact after4 HB_W0 hb_w1 | exact after5 HB_W0 hb_w1
    try clear q_a_0 q_a_1
    have H_a := Lib.hid (Box.below (by first | exact H_a.out | exact H_a.out.alloc _ | exact (H_a.out.alloc _).alloc _ | exact ((H_a.out.alloc _).alloc _).alloc _) hb_w1)
    obtain ⟨q_a_0, q_a_1⟩ := H_a.out.c2
    try clear q_b_0 q_b_1
    have H_b := Lib.hid (Box.below (by first | exact H_b.out | exact H_b.out.alloc _ | exact (H_b.out.alloc _).alloc _ | exact ((H_b.out.alloc _).alloc _).alloc _) hb_w1)
    obtain ⟨q_b_0, q_b_1⟩ := H_b.out.c2
    try clear q_c_0 q_c_1
    have H_c := Lib.hid (Box.below (by first | exact H_c.out | exact H_c.out.alloc _ | exact (H_c.out.alloc _).alloc _ | exact ((H_c.out.alloc _).alloc _).alloc _) hb_w1)
    obtain ⟨q_c_0, q_c_1⟩ := H_c.out.c2
    replace HSA := Lib.hid (show Sl w1 _ _ _ _ _ _ by first | exact HSA.out.below hb_w1 | exact (HSA.out.below (grew1 (Below.refl _ _))).below hb_w1 | exact (HSA.out.below (grew2 (Below.refl _ _))).below hb_w1 | exact (HSA.out.below (grew3 (Below.refl _ _))).below hb_w1)
    replace HSB := Lib.hid (show Sl w1 _ _ _ _ _ _ by first | exact HSB.out.below hb_w1 | exact (HSB.out.below (grew1 (Below.refl _ _))).below hb_w1 | exact (HSB.out.below (grew2 (Below.refl _ _))).below hb_w1 | exact (HSB.out.below (grew3 (Below.refl _ _))).below hb_w1)
    replace HSC := Lib.hid (show Sl w1 _ _ _ _ _ _ by first | exact HSC.out.below hb_w1 | exact (HSC.out.below (grew1 (Below.refl _ _))).below hb_w1 | exact (HSC.out.below (grew2 (Below.refl _ _))).below hb_w1 | exact (HSC.out.below (grew3 (Below.refl _ _))).below hb_w1)
    clear hW0
    go_wp2_with fail
    refine (chain_to1 h1.out (by first | exact HSA.out | exact HSA.out.below (grew1 (Below.refl _ _)) | exact HSA.out.below (grew2 (Below.refl _ _)) | exact HSA.out.below (grew3 (Below.refl _ _))) (Box.new w1 [.int .i64 oa, .slice aa na ca] 24)).mono ?_
    rintro e w2 ⟨rfl, hb_w2⟩
    have HB_w2 : Below w.heap.size w w2 := by first | exact after0 HB_w1 hb_w2 | exact after1 HB_w1 hb_w2 | exact after2 HB_w1 hb_w2 | exact after3 HB_w1 hb_w2 | exact after4 HB_w1 hb_w2 | exact after5 HB_w1 hb_w2
    try clear q_a_0 q_a_1
    have H_a := Lib.hid (Box.below (by first | exact H_a.out | exact H_a.out.alloc _ | exact (H_a.out.alloc _).alloc _ | exact ((H_a.out.alloc _).alloc _).alloc _) hb_w2)
    obtain ⟨q_a_0, q_a_1⟩ := H_a.out.c2
    try clear q_b_0 q_b_1
    have H_b := Lib.hid (Box.below (by first | exact H_b.out | exact H_b.out.alloc _ | exact (H_b.out.alloc _).alloc _ | exact ((H_b.out.alloc _).alloc _).alloc _) hb_w2)
    obtain ⟨q_b_0, q_b_1⟩ := H_b.out.c2
    try clear q_c_0 q_c_1
    have H_c := Lib.hid (Box.below (by first | exact H_c.out | exact H_c.out.alloc _ | exact (H_c.out.alloc _).alloc _ | exact ((H_c.out.alloc _).alloc _).alloc _) hb_w2)
    obtain ⟨q_c_0, q_c_1⟩ := H_c.out.c2
    replace HSA := Lib.hid (show Sl w2 _ _ _ _ _ _ by first | exact HSA.out.below hb_w2 | exact (HSA.out.below (grew1 (Below.refl _ _))).below hb_w2 | exact (HSA.out.below (grew2 (Below.refl _ _))).below hb_w2 | exact (HSA.out.below (grew3 (Below.refl _ _))).below hb_w2)
    replace HSB := Lib.hid (show Sl w2 _ _ _ _ _ _ by first | exact HSB.out.below hb_w2 | exact (HSB.out.below (grew1 (Below.refl _ _))).below hb_w2 | exact (HSB.out.below (grew2 (Below.refl _ _))).below hb_w2 | exact (HSB.out.below (grew3 (Below.refl _ _))).below hb_w2)
    replace HSC := Lib.hid (show Sl w2 _ _ _ _ _ _ by first | exact HSC.out.below hb_w2 | exact (HSC.out.below (grew1 (Below.refl _ _))).below hb_w2 | exact (HSC.out.below (grew2 (Below.refl _ _))).below hb_w2 | exact (HSC.out.below (grew3 (Below.refl _ _))).below hb_w2)
    go_wp2_with fail
    refine (find_to h2.out (by first | exact HSA.out | exact HSA.out.below (grew1 (Below.refl _ _)) | exact HSA.out.below (grew2 (Below.refl _ _)) | exact HSA.out.below (grew3 (Below.refl _ _)))).mono ?_
    rintro e w3 ⟨rfl, hb_w3⟩
    have HB_w3 : Below w.heap.size w w3 := by first | exact after0 HB_w2 hb_w3 | exact after1 HB_w2 hb_w3 | exact after2 HB_w2 hb_w3 | exact after3 HB_w2 hb_w3 | exact after4 HB_w2 hb_w3 | exact after5 HB_w2 hb_w3
    try clear q_a_0 q_a_1
    have H_a := Lib.hid (Box.below (by first | exact H_a.out | exact H_a.out.alloc _ | exact (H_a.out.alloc _).alloc _ | exact ((H_a.out.alloc _).alloc _).alloc _) hb_w3)
    obtain ⟨q_a_0, q_a_1⟩ := H_a.out.c2
    try clear q_b_0 q_b_1
    have H_b := Lib.hid (Box.below (by first | exact H_b.out | exact H_b.out.alloc _ | exact (H_b.out.alloc _).alloc _ | exact ((H_b.out.alloc _).alloc _).alloc _) hb_w3)
    obtain ⟨q_b_0, q_b_1⟩ := H_b.out.c2
    try clear q_c_0 q_c_1
    have H_c := Lib.hid (Box.below (by first | exact H_c.out | exact H_c.out.alloc _ | exact (H_c.out.alloc _).alloc _ | exact ((H_c.out.alloc _).alloc _).alloc _) hb_w3)
    obtain ⟨q_c_0, q_c_1⟩ := H_c.out.c2
    replace HSA := Lib.hid (show Sl w3 _ _ _ _ _ _ by first | exact HSA.out.below hb_w3 | exact (HSA.out.below (grew1 (Below.refl _ _))).below hb_w3 | exact (HSA.out.below (grew2 (Below.refl _ _))).below hb_w3 | exact (HSA.out.below (grew3 (Below.refl _ _))).below hb_w3)
    replace HSB := Lib.hid (show Sl w3 _ _ _ _ _ _ by first | exact HSB.out.below hb_w3 | exact (HSB.out.below (grew1 (Below.refl _ _))).below hb_w3 | exact (HSB.out.below (grew2 (Below.refl _ _))).below hb_w3 | exact (HSB.out.below (grew3 (Below.refl _ _))).below hb_w3)
    replace HSC := Lib.hid (show Sl w3 _ _ _ _ _ _ by first | exact HSC.out.below hb_w3 | exact (HSC.out.below (grew1 (Below.refl _ _))).below hb_w3 | exact (HSC.out.below (grew2 (Below.refl _ _))).below hb_w3 | exact (HSC.out.below (grew3 (Below.refl _ _))).below hb_w3)
    obtain ⟨W1, hW1, HB_W1, hZ, hM, H_z⟩ := boxes2 w3 [.int .i64 m0, .int .i64 m1, .int .i64 m2] [.int .i64 oa, .slice aa na ca, .int .i64 ob, .slice ab nb cb, .int .i64 oc, .slice ac nc cc] 29 24
    have H_m := Lib.hid hM
    replace H_z := Lib.hid H_z
    obtain ⟨z0, z1⟩ := (H_a.out.alloc (.cells #[.int .i64 m0, .int .i64 m1, .int .i64 m2] 29)).c2
    obtain ⟨z2, z3⟩ := (H_b.out.alloc (.cells #[.int .i64 m0, .int .i64 m1, .int .i64 m2] 29)).c2
    obtain ⟨z4, z5⟩ := (H_c.out.alloc (.cells #[.int .i64 m0, .int .i64 m1, .int .i64 m2] 29)).c2
    replace H_a := Lib.hid (H_a.out.below HB_W1)
    replace H_b := Lib.hid (H_b.out.below HB_W1)
    replace H_c := Lib.hid (H_c.out.below HB_W1)
    replace HSA := Lib.hid (HSA.out.below HB_W1)
    replace HSB := Lib.hid (HSB.out.below HB_W1)
    replace HSC := Lib.hid (HSC.out.below HB_W1)
    replace HB_W1 := after0 HB_w3 HB_W1
    clear hM hZ q_a_0 q_a_1 q_b_0 q_b_1 q_c_0 q_c_1
    go_wp2_with fail
    all_goals try (exfalso; omega)
    clear z0 z1 z2 z3 z4 z5 hW1
    refine (chain_to3 h3.out (by first | exact HSA.out | exact HSA.out.below (grew1 (Below.refl _ _)) | exact HSA.out.below (grew2 (Below.refl _ _)) | exact HSA.out.below (grew3 (Below.refl _ _))) (by first | exact HSB.out | exact HSB.out.below (grew1 (Below.refl _ _)) | exact HSB.out.below (grew2 (Below.refl _ _)) | exact HSB.out.below (grew3 (Below.refl _ _))) (by first | exact HSC.out | exact HSC.out.below (grew1 (Below.refl _ _)) | exact HSC.out.below (grew2 (Below.refl _ _)) | exact HSC.out.below (grew3 (Below.refl _ _))) H_z.out).mono ?_
    rintro e w4 ⟨rfl, hb_w4⟩
    have HB_w4 : Below w.heap.size w w4 := by first | exact after0 HB_W1 hb_w4 | exact after1 HB_W1 hb_w4 | exact after2 HB_W1 hb_w4 | exact after3 HB_W1 hb_w4 | exact after4 HB_W1 hb_w4 | exact after5 HB_W1 hb_w4
    try clear q_a_0 q_a_1
    have H_a := Lib.hid (Box.below (by first | exact H_a.out | exact H_a.out.alloc _ | exact (H_a.out.alloc _).alloc _ | exact ((H_a.out.alloc _).alloc _).alloc _) hb_w4)
    obtain ⟨q_a_0, q_a_1⟩ := H_a.out.c2
    try clear q_b_0 q_b_1
    have H_b := Lib.hid (Box.below (by first | exact H_b.out | exact H_b.out.alloc _ | exact (H_b.out.alloc _).alloc _ | exact ((H_b.out.alloc _).alloc _).alloc _) hb_w4)
    obtain ⟨q_b_0, q_b_1⟩ := H_b.out.c2
    try clear q_c_0 q_c_1
    have H_c := Lib.hid (Box.below (by first | exact H_c.out | exact H_c.out.alloc _ | exact (H_c.out.alloc _).alloc _ | exact ((H_c.out.alloc _).alloc _).alloc _) hb_w4)
    obtain ⟨q_c_0, q_c_1⟩ := H_c.out.c2
    try clear q_m_0 q_m_1 q_m_2
    have H_m := Lib.hid (Box.below (by first | exact H_m.out | exact H_m.out.alloc _ | exact (H_m.out.alloc _).alloc _ | exact ((H_m.out.alloc _).alloc _).alloc _) hb_w4)
    obtain ⟨q_m_0, q_m_1, q_m_2⟩ := H_m.out.c3
    replace HSA := Lib.hid (show Sl w4 _ _ _ _ _ _ by first | exact HSA.out.below hb_w4 | exact (HSA.out.below (grew1 (Below.refl _ _))).below hb_w4 | exact (HSA.out.below (grew2 (Below.refl _ _))).below hb_w4 | exact (HSA.out.below (grew3 (Below.refl _ _))).below hb_w4)
    replace HSB := Lib.hid (show Sl w4 _ _ _ _ _ _ by first | exact HSB.out.below hb_w4 | exact (HSB.out.below (grew1 (Below.refl _ _))).below hb_w4 | exact (HSB.out.below (grew2 (Below.refl _ _))).below hb_w4 | exact (HSB.out.below (grew3 (Below.refl _ _))).below hb_w4)
    replace HSC := Lib.hid (show Sl w4 _ _ _ _ _ _ by first | exact HSC.out.below hb_w4 | exact (HSC.out.below (grew1 (Below.refl _ _))).below hb_w4 | exact (HSC.out.below (grew2 (Below.refl _ _))).below hb_w4 | exact (HSC.out.below (grew3 (Below.refl _ _))).below hb_w4)
    go_wp2_with fail
    refine (chain_to2 h4.out (by first | exact HSA.out | exact HSA.out.below (grew1 (Below.refl _ _)) | exact HSA.out.below (grew2 (Below.refl _ _)) | exact HSA.out.below (grew3 (Below.refl _ _))) (by first | exact HSB.out | exact HSB.out.below (grew1 (Below.refl _ _)) | exact HSB.out.below (grew2 (Below.refl _ _)) | exact HSB.out.below (grew3 (Below.refl _ _))) (Box.new w4 [.int .i64 oa, .slice aa na ca, .int .i64 ob, .slice ab nb cb] 24)).mono ?_
    rintro e w5 ⟨rfl, hb_w5⟩
    have HB_w5 : Below w.heap.size w w5 := by first | exact after0 HB_w4 hb_w5 | exact after1 HB_w4 hb_w5 | exact after2 HB_w4 hb_w5 | exact after3 HB_w4 hb_w5 | exact after4 HB_w4 hb_w5 | exact after5 HB_w4 hb_w5
    try clear q_a_0 q_a_1
    have H_a := Lib.hid (Box.below (by first | exact H_a.out | exact H_a.out.alloc _ | exact (H_a.out.alloc _).alloc _ | exact ((H_a.out.alloc _).alloc _).alloc _) hb_w5)
    obtain ⟨q_a_0, q_a_1⟩ := H_a.out.c2
    try clear q_b_0 q_b_1
    have H_b := Lib.hid (Box.below (by first | exact H_b.out | exact H_b.out.alloc _ | exact (H_b.out.alloc _).alloc _ | exact ((H_b.out.alloc _).alloc _).alloc _) hb_w5)
    obtain ⟨q_b_0, q_b_1⟩ := H_b.out.c2
    try clear q_c_0 q_c_1
    have H_c := Lib.hid (Box.below (by first | exact H_c.out | exact H_c.out.alloc _ | exact (H_c.out.alloc _).alloc _ | exact ((H_c.out.alloc _).alloc _).alloc _) hb_w5)
    obtain ⟨q_c_0, q_c_1⟩ := H_c.out.c2
    try clear q_m_0 q_m_1 q_m_2
    have H_m := Lib.hid (Box.below (by first | exact H_m.out | exact H_m.out.alloc _ | exact (H_m.out.alloc _).alloc _ | exact ((H_m.out.alloc _).alloc _).alloc _) hb_w5)
    obtain ⟨q_m_0, q_m_1, q_m_2⟩ := H_m.out.c3
    replace HSA := Lib.hid (show Sl w5 _ _ _ _ _ _ by first | exact HSA.out.below hb_w5 | exact (HSA.out.below (grew1 (Below.refl _ _))).below hb_w5 | exact (HSA.out.below (grew2 (Below.refl _ _))).below hb_w5 | exact (HSA.out.below (grew3 (Below.refl _ _))).below hb_w5)
    replace HSB := Lib.hid (show Sl w5 _ _ _ _ _ _ by first | exact HSB.out.below hb_w5 | exact (HSB.out.below (grew1 (Below.refl _ _))).below hb_w5 | exact (HSB.out.below (grew2 (Below.refl _ _))).below hb_w5 | exact (HSB.out.below (grew3 (Below.refl _ _))).below hb_w5)
    replace HSC := Lib.hid (show Sl w5 _ _ _ _ _ _ by first | exact HSC.out.below hb_w5 | exact (HSC.out.below (grew1 (Below.refl _ _))).below hb_w5 | exact (HSC.out.below (grew2 (Below.refl _ _))).below hb_w5 | exact (HSC.out.below (grew3 (Below.refl _ _))).below hb_w5)
    go_wp2_with fail
    all_goals try (exfalso; omega)
    all_goals try (go_ret; first | exact ⟨rfl, HB_w5⟩ | (refine ⟨ret_bool ?_, HB_w5⟩; simp; omega))
  · dsimp only at k1 k2 k3 k4 k5
    replace k1 := k1.symm
    replace k2 := k2.symm
    subst k1 k2
    go_enter Try.func6, Try.ntmps6
    go_wp2_with fail
    refine (head_any _).mono ?_
    rintro e w1 ⟨rfl, hb_w1⟩
    have HB_w1 : Below w.heap.size w w1 := by first | exact after0 HB_W0 hb_w1 | exact after1 HB_W0 hb_w1 | exact after2 HB_W0 hb_w1 | exact after3 HB_W0 hb_w1 | exact after4 HB_W0 hb_w1 | exact after5 HB_W0 hb_w1
    try clear q_a_0 q_a_1
    have H_a := Lib.hid (Box.below (by first | exact H_a.out | exact H_a.out.alloc _ | exact (H_a.out.alloc _).alloc _ | exact ((H_a.out.alloc _).alloc _).alloc _) hb_w1)
    obtain ⟨q_a_0, q_a_1⟩ := H_a.out.c2
    try clear q_b_0 q_b_1
    have H_b := Lib.hid (Box.below (by first | exact H_b.out | exact H_b.out.alloc _ | exact (H_b.out.alloc _).alloc _ | exact ((H_b.out.alloc _).alloc _).alloc _) hb_w1)
    obtain ⟨q_b_0, q_b_1⟩ := H_b.out.c2
    try clear q_c_0 q_c_1
    have H_c := Lib.hid (Box.below (by first | exact H_c.out | exact H_c.out.alloc _ | exact (H_c.out.alloc _).alloc _ | exact ((H_c.out.alloc _).alloc _).alloc _) hb_w1)
    obtain ⟨q_c_0, q_c_1⟩ := H_c.out.c2
    replace HSA := Lib.hid (show Sl w1 _ _ _ _ _ _ by first | exact HSA.out.below hb_w1 | exact (HSA.out.below (grew1 (Below.refl _ _))).below hb_w1 | exact (HSA.out.below (grew2 (Below.refl _ _))).below hb_w1 | exact (HSA.out.below (grew3 (Below.refl _ _))).below hb_w1)
    replace HSB := Lib.hid (show Sl w1 _ _ _ _ _ _ by first | exact HSB.out.below hb_w1 | exact (HSB.out.below (grew1 (Below.refl _ _))).below hb_w1 | exact (HSB.out.below (grew2 (Below.refl _ _))).below hb_w1 | exact (HSB.out.below (grew3 (Below.refl _ _))).below hb_w1)
    replace HSC := Lib.hid (show Sl w1 _ _ _ _ _ _ by first | exact HSC.out.below hb_w1 | exact (HSC.out.below (grew1 (Below.refl _ _))).below hb_w1 | exact (HSC.out.below (grew2 (Below.refl _ _))).below hb_w1 | exact (HSC.out.below (grew3 (Below.refl _ _))).below hb_w1)
    clear hW0
    go_wp2_with fail
    refine (chain_to1 h1.out (by first | exact HSA.out | exact HSA.out.below (grew1 (Below.refl _ _)) | exact HSA.out.below (grew2 (Below.refl _ _)) | exact HSA.out.below (grew3 (Below.refl _ _))) (Box.new w1 [.int .i64 oa, .slice aa na ca] 24)).mono ?_
    rintro e w2 ⟨rfl, hb_w2⟩
    have HB_w2 : Below w.heap.size w w2 := by first | exact after0 HB_w1 hb_w2 | exact after1 HB_w1 hb_w2 | exact after2 HB_w1 hb_w2 | exact after3 HB_w1 hb_w2 | exact after4 HB_w1 hb_w2 | exact after5 HB_w1 hb_w2
    try clear q_a_0 q_a_1
    have H_a := Lib.hid (Box.below (by first | exact H_a.out | exact H_a.out.alloc _ | exact (H_a.out.alloc _).alloc _ | exact ((H_a.out.alloc _).alloc _).alloc _) hb_w2)
    obtain ⟨q_a_0, q_a_1⟩ := H_a.out.c2
    try clear q_b_0 q_b_1
    have H_b := Lib.hid (Box.below (by first | exact H_b.out | exact H_b.out.alloc _ | exact (H_b.out.alloc _).alloc _ | exact ((H_b.out.alloc _).alloc _).alloc _) hb_w2)
    obtain ⟨q_b_0, q_b_1⟩ := H_b.out.c2
    try clear q_c_0 q_c_1
    have H_c := Lib.hid (Box.below (by first | exact H_c.out | exact H_c.out.alloc _ | exact (H_c.out.alloc _).alloc _ | exact ((H_c.out.alloc _).alloc _).alloc _) hb_w2)
    obtain ⟨q_c_0, q_c_1⟩ := H_c.out.c2
    replace HSA := Lib.hid (show Sl w2 _ _ _ _ _ _ by first | exact HSA.out.below hb_w2 | exact (HSA.out.below (grew1 (Below.refl _ _))).below hb_w2 | exact (HSA.out.below (grew2 (Below.refl _ _))).below hb_w2 | exact (HSA.out.below (grew3 (Below.refl _ _))).below hb_w2)
    replace HSB := Lib.hid (show Sl w2 _ _ _ _ _ _ by first | exact HSB.out.below hb_w2 | exact (HSB.out.below (grew1 (Below.refl _ _))).below hb_w2 | exact (HSB.out.below (grew2 (Below.refl _ _))).below hb_w2 | exact (HSB.out.below (grew3 (Below.refl _ _))).below hb_w2)
    replace HSC := Lib.hid (show Sl w2 _ _ _ _ _ _ by first | exact HSC.out.below hb_w2 | exact (HSC.out.below (grew1 (Below.refl _ _))).below hb_w2 | exact (HSC.out.below (grew2 (Below.refl _ _))).below hb_w2 | exact (HSC.out.below (grew3 (Below.refl _ _))).below hb_w2)
    go_wp2_with fail
    refine (find_to h2.out (by first | exact HSA.out | exact HSA.out.below (grew1 (Below.refl _ _)) | exact HSA.out.below (grew2 (Below.refl _ _)) | exact HSA.out.below (grew3 (Below.refl _ _)))).mono ?_
    rintro e w3 ⟨rfl, hb_w3⟩
    have HB_w3 : Below w.heap.size w w3 := by first | exact after0 HB_w2 hb_w3 | exact after1 HB_w2 hb_w3 | exact after2 HB_w2 hb_w3 | exact after3 HB_w2 hb_w3 | exact after4 HB_w2 hb_w3 | exact after5 HB_w2 hb_w3
    try clear q_a_0 q_a_1
    have H_a := Lib.hid (Box.below (by first | exact H_a.out | exact H_a.out.alloc _ | exact (H_a.out.alloc _).alloc _ | exact ((H_a.out.alloc _).alloc _).alloc _) hb_w3)
    obtain ⟨q_a_0, q_a_1⟩ := H_a.out.c2
    try clear q_b_0 q_b_1
    have H_b := Lib.hid (Box.below (by first | exact H_b.out | exact H_b.out.alloc _ | exact (H_b.out.alloc _).alloc _ | exact ((H_b.out.alloc _).alloc _).alloc _) hb_w3)
    obtain ⟨q_b_0, q_b_1⟩ := H_b.out.c2
    try clear q_c_0 q_c_1
    have H_c := Lib.hid (Box.below (by first | exact H_c.out | exact H_c.out.alloc _ | exact (H_c.out.alloc _).alloc _ | exact ((H_c.out.alloc _).alloc _).alloc _) hb_w3)
    obtain ⟨q_c_0, q_c_1⟩ := H_c.out.c2
    replace HSA := Lib.hid (show Sl w3 _ _ _ _ _ _ by first | exact HSA.out.below hb_w3 | exact (HSA.out.below (grew1 (Below.refl _ _))).below hb_w3 | exact (HSA.out.below (grew2 (Below.refl _ _))).below hb_w3 | exact (HSA.out.below (grew3 (Below.refl _ _))).below hb_w3)
    replace HSB := Lib.hid (show Sl w3 _ _ _ _ _ _ by first | exact HSB.out.below hb_w3 | exact (HSB.out.below (grew1 (Below.refl _ _))).below hb_w3 | exact (HSB.out.below (grew2 (Below.refl _ _))).below hb_w3 | exact (HSB.out.below (grew3 (Below.refl _ _))).below hb_w3)
    replace HSC := Lib.hid (show Sl w3 _ _ _ _ _ _ by first | exact HSC.out.below hb_w3 | exact (HSC.out.below (grew1 (Below.refl _ _))).below hb_w3 | exact (HSC.out.below (grew2 (Below.refl _ _))).below hb_w3 | exact (HSC.out.below (grew3 (Below.refl _ _))).below hb_w3)
    obtain ⟨W1, hW1, HB_W1, hZ, hM, H_z⟩ := boxes2 w3 [.int .i64 m0, .int .i64 m1, .int .i64 m2] [.int .i64 oa, .slice aa na ca, .int .i64 ob, .slice ab nb cb, .int .i64 oc, .slice ac nc cc] 29 24
    have H_m := Lib.hid hM
    replace H_z := Lib.hid H_z
    obtain ⟨z0, z1⟩ := (H_a.out.alloc (.cells #[.int .i64 m0, .int .i64 m1, .int .i64 m2] 29)).c2
    obtain ⟨z2, z3⟩ := (H_b.out.alloc (.cells #[.int .i64 m0, .int .i64 m1, .int .i64 m2] 29)).c2
    obtain ⟨z4, z5⟩ := (H_c.out.alloc (.cells #[.int .i64 m0, .int .i64 m1, .int .i64 m2] 29)).c2
    replace H_a := Lib.hid (H_a.out.below HB_W1)
    replace H_b := Lib.hid (H_b.out.below HB_W1)
    replace H_c := Lib.hid (H_c.out.below HB_W1)
    replace HSA := Lib.hid (HSA.out.below HB_W1)
    replace HSB := Lib.hid (HSB.out.below HB_W1)
    replace HSC := Lib.hid (HSC.out.below HB_W1)
    replace HB_W1 := after0 HB_w3 HB_W1
    clear hM hZ q_a_0 q_a_1 q_b_0 q_b_1 q_c_0 q_c_1
    go_wp2_with fail
    all_goals try (exfalso; omega)
    clear z0 z1 z2 z3 z4 z5 hW1
    refine (chain_to3 h3.out (by first | exact HSA.out | exact HSA.out.below (grew1 (Below.refl _ _)) | exact HSA.out.below (grew2 (Below.refl _ _)) | exact HSA.out.below (grew3 (Below.refl _ _))) (by first | exact HSB.out | exact HSB.out.below (grew1 (Below.refl _ _)) | exact HSB.out.below (grew2 (Below.refl _ _)) | exact HSB.out.below (grew3 (Below.refl _ _))) (by first | exact HSC.out | exact HSC.out.below (grew1 (Below.refl _ _)) | exact HSC.out.below (grew2 (Below.refl _ _)) | exact HSC.out.below (grew3 (Below.refl _ _))) H_z.out).mono ?_
    rintro e w4 ⟨rfl, hb_w4⟩
    have HB_w4 : Below w.heap.size w w4 := by first | exact after0 HB_W1 hb_w4 | exact after1 HB_W1 hb_w4 | exact after2 HB_W1 hb_w4 | exact after3 HB_W1 hb_w4 | exact after4 HB_W1 hb_w4 | exact after5 HB_W1 hb_w4
    try clear q_a_0 q_a_1
    have H_a := Lib.hid (Box.below (by first | exact H_a.out | exact H_a.out.alloc _ | exact (H_a.out.alloc _).alloc _ | exact ((H_a.out.alloc _).alloc _).alloc _) hb_w4)
    obtain ⟨q_a_0, q_a_1⟩ := H_a.out.c2
    try clear q_b_0 q_b_1
    have H_b := Lib.hid (Box.below (by first | exact H_b.out | exact H_b.out.alloc _ | exact (H_b.out.alloc _).alloc _ | exact ((H_b.out.alloc _).alloc _).alloc _) hb_w4)
    obtain ⟨q_b_0, q_b_1⟩ := H_b.out.c2
    try clear q_c_0 q_c_1
    have H_c := Lib.hid (Box.below (by first | exact H_c.out | exact H_c.out.alloc _ | exact (H_c.out.alloc _).alloc _ | exact ((H_c.out.alloc _).alloc _).alloc _) hb_w4)
    obtain ⟨q_c_0, q_c_1⟩ := H_c.out.c2
    try clear q_m_0 q_m_1 q_m_2
    have H_m := Lib.hid (Box.below (by first | exact H_m.out | exact H_m.out.alloc _ | exact (H_m.out.alloc _).alloc _ | exact ((H_m.out.alloc _).alloc _).alloc _) hb_w4)
    obtain ⟨q_m_0, q_m_1, q_m_2⟩ := H_m.out.c3
    replace HSA := Lib.hid (show Sl w4 _ _ _ _ _ _ by first | exact HSA.out.below hb_w4 | exact (HSA.out.below (grew1 (Below.refl _ _))).below hb_w4 | exact (HSA.out.below (grew2 (Below.refl _ _))).below hb_w4 | exact (HSA.out.below (grew3 (Below.refl _ _))).below hb_w4)
    replace HSB := Lib.hid (show Sl w4 _ _ _ _ _ _ by first | exact HSB.out.below hb_w4 | exact (HSB.out.below (grew1 (Below.refl _ _))).below hb_w4 | exact (HSB.out.below (grew2 (Below.refl _ _))).below hb_w4 | exact (HSB.out.below (grew3 (Below.refl _ _))).below hb_w4)
    replace HSC := Lib.hid (show Sl w4 _ _ _ _ _ _ by first | exact HSC.out.below hb_w4 | exact (HSC.out.below (grew1 (Below.refl _ _))).below hb_w4 | exact (HSC.out.below (grew2 (Below.refl _ _))).below hb_w4 | exact (HSC.out.below (grew3 (Below.refl _ _))).below hb_w4)
    go_wp2_with fail
    refine (chain_to2 h4.out (by first | exact HSA.out | exact HSA.out.below (grew1 (Below.refl _ _)) | exact HSA.out.below (grew2 (Below.refl _ _)) | exact HSA.out.below (grew3 (Below.refl _ _))) (by first | exact HSB.out | exact HSB.out.below (grew1 (Below.refl _ _)) | exact HSB.out.below (grew2 (Below.refl _ _)) | exact HSB.out.below (grew3 (Below.refl _ _))) (Box.new w4 [.int .i64 oa, .slice aa na ca, .int .i64 ob, .slice ab nb cb] 24)).mono ?_
    rintro e w5 ⟨rfl, hb_w5⟩
    have HB_w5 : Below w.heap.size w w5 := by first | exact after0 HB_w4 hb_w5 | exact after1 HB_w4 hb_w5 | exact after2 HB_w4 hb_w5 | exact after3 HB_w4 hb_w5 | exact after4 HB_w4 hb_w5 | exact after5 HB_w4 hb_w5
    try clear q_a_0 q_a_1
    have H_a := Lib.hid (Box.below (by first | exact H_a.out | exact H_a.out.alloc _ | exact (H_a.out.alloc _).alloc _ | exact ((H_a.out.alloc _).alloc _).alloc _) hb_w5)
    obtain ⟨q_a_0, q_a_1⟩ := H_a.out.c2
    try clear q_b_0 q_b_1
    have H_b := Lib.hid (Box.below (by first | exact H_b.out | exact H_b.out.alloc _ | exact (H_b.out.alloc _).alloc _ | exact ((H_b.out.alloc _).alloc _).alloc _) hb_w5)
    obtain ⟨q_b_0, q_b_1⟩ := H_b.out.c2
    try clear q_c_0 q_c_1
    have H_c := Lib.hid (Box.below (by first | exact H_c.out | exact H_c.out.alloc _ | exact (H_c.out.alloc _).alloc _ | exact ((H_c.out.alloc _).alloc _).alloc _) hb_w5)
    obtain ⟨q_c_0, q_c_1⟩ := H_c.out.c2
    try clear q_m_0 q_m_1 q_m_2
    have H_m := Lib.hid (Box.below (by first | exact H_m.out | exact H_m.out.alloc _ | exact (H_m.out.alloc _).alloc _ | exact ((H_m.out.alloc _).alloc _).alloc _) hb_w5)
    obtain ⟨q_m_0, q_m_1, q_m_2⟩ := H_m.out.c3
    replace HSA := Lib.hid (show Sl w5 _ _ _ _ _ _ by first | exact HSA.out.below hb_w5 | exact (HSA.out.below (grew1 (Below.refl _ _))).below hb_w5 | exact (HSA.out.below (grew2 (Below.refl _ _))).below hb_w5 | exact (HSA.out.below (grew3 (Below.refl _ _))).below hb_w5)
    replace HSB := Lib.hid (show Sl w5 _ _ _ _ _ _ by first | exact HSB.out.below hb_w5 | exact (HSB.out.below (grew1 (Below.refl _ _))).below hb_w5 | exact (HSB.out.below (grew2 (Below.refl _ _))).below hb_w5 | exact (HSB.out.below (grew3 (Below.refl _ _))).below hb_w5)
    replace HSC := Lib.hid (show Sl w5 _ _ _ _ _ _ by first | exact HSC.out.below hb_w5 | exact (HSC.out.below (grew1 (Below.refl _ _))).below hb_w5 | exact (HSC.out.below (grew2 (Below.refl _ _))).below hb_w5 | exact (HSC.out.below (grew3 (Below.refl _ _))).below hb_w5)
    go_wp2_with fail
    all_goals try (exfalso; omega)
    refine (translate_to h5.out (by first | exact HSA.out | exact HSA.out.below (grew1 (Below.refl _ _)) | exact HSA.out.below (grew2 (Below.refl _ _)) | exact HSA.out.below (grew3 (Below.refl _ _))) (by first | exact HSC.out | exact HSC.out.below (grew1 (Below.refl _ _)) | exact HSC.out.below (grew2 (Below.refl _ _)) | exact HSC.out.below (grew3 (Below.refl _ _)))).mono ?_
    rintro e w6 ⟨rfl, hb_w6⟩
    have HB_w6 : Below w.heap.size w w6 := by first | exact after0 HB_w5 hb_w6 | exact after1 HB_w5 hb_w6 | exact after2 HB_w5 hb_w6 | exact after3 HB_w5 hb_w6 | exact after4 HB_w5 hb_w6 | exact after5 HB_w5 hb_w6
    try clear q_b_0 q_b_1
    have H_b := Lib.hid (Box.below (by first | exact H_b.out | exact H_b.out.alloc _ | exact (H_b.out.alloc _).alloc _ | exact ((H_b.out.alloc _).alloc _).alloc _) hb_w6)
    obtain ⟨q_b_0, q_b_1⟩ := H_b.out.c2
    try clear q_c_0 q_c_1
    have H_c := Lib.hid (Box.below (by first | exact H_c.out | exact H_c.out.alloc _ | exact (H_c.out.alloc _).alloc _ | exact ((H_c.out.alloc _).alloc _).alloc _) hb_w6)
    obtain ⟨q_c_0, q_c_1⟩ := H_c.out.c2
    try clear q_m_0 q_m_1 q_m_2
    have H_m := Lib.hid (Box.below (by first | exact H_m.out | exact H_m.out.alloc _ | exact (H_m.out.alloc _).alloc _ | exact ((H_m.out.alloc _).alloc _).alloc _) hb_w6)
    obtain ⟨q_m_0, q_m_1, q_m_2⟩ := H_m.out.c3
    replace HSB := Lib.hid (show Sl w6 _ _ _ _ _ _ by first | exact HSB.out.below hb_w6 | exact (HSB.out.below (grew1 (Below.refl _ _))).below hb_w6 | exact (HSB.out.below (grew2 (Below.refl _ _))).below hb_w6 | exact (HSB.out.below (grew3 (Below.refl _ _))).below hb_w6)
    replace HSC := Lib.hid (show Sl w6 _ _ _ _ _ _ by first | exact HSC.out.below hb_w6 | exact (HSC.out.below (grew1 (Below.refl _ _))).below hb_w6 | exact (HSC.out.below (grew2 (Below.refl _ _))).below hb_w6 | exact (HSC.out.below (grew3 (Below.refl _ _))).below hb_w6)
    go_wp2_with fail
    refine (find_to h6.out (by first | exact HSC.out | exact HSC.out.below (grew1 (Below.refl _ _)) | exact HSC.out.below (grew2 (Below.refl _ _)) | exact HSC.out.below (grew3 (Below.refl _ _)))).mono ?_
    rintro e w7 ⟨rfl, hb_w7⟩
    have HB_w7 : Below w.heap.size w w7 := by first | exact after0 HB_w6 hb_w7 | exact after1 HB_w6 hb_w7 | exact after2 HB_w6 hb_w7 | exact after3 HB_w6 hb_w7 | exact after4 HB_w6 hb_w7 | exact after5 HB_w6 hb_w7
    try clear q_b_0 q_b_1
    have H_b := Lib.hid (Box.below (by first | exact H_b.out | exact H_b.out.alloc _ | exact (H_b.out.alloc _).alloc _ | exact ((H_b.out.alloc _).alloc _).alloc _) hb_w7)
    obtain ⟨q_b_0, q_b_1⟩ := H_b.out.c2
    try clear q_c_0 q_c_1
    have H_c := Lib.hid (Box.below (by first | exact H_c.out | exact H_c.out.alloc _ | exact (H_c.out.alloc _).alloc _ | exact ((H_c.out.alloc _).alloc _).alloc _) hb_w7)
    obtain ⟨q_c_0, q_c_1⟩ := H_c.out.c2
    try clear q_m_0 q_m_1 q_m_2
    have H_m := Lib.hid (Box.below (by first | exact H_m.out | exact H_m.out.alloc _ | exact (H_m.out.alloc _).alloc _ | exact ((H_m.out.alloc _).alloc _).alloc _) hb_w7)
    obtain ⟨q_m_0, q_m_1, q_m_2⟩ := H_m.out.c3
    replace HSB := Lib.hid (show Sl w7 _ _ _ _ _ _ by first | exact HSB.out.below hb_w7 | exact (HSB.out.below (grew1 (Below.refl _ _))).below hb_w7 | exact (HSB.out.below (grew2 (Below.refl _ _))).below hb_w7 | exact (HSB.out.below (grew3 (Below.refl _ _))).below hb_w7)
    replace HSC := Lib.hid (show Sl w7 _ _ _ _ _ _ by first | exact HSC.out.below hb_w7 | exact (HSC.out.below (grew1 (Below.refl _ _))).below hb_w7 | exact (HSC.out.below (grew2 (Below.refl _ _))).below hb_w7 | exact (HSC.out.below (grew3 (Below.refl _ _))).below hb_w7)
    have H_p := Lib.hid (Box.new w7 [.int .i64 p0, .int .i64 m1, .int .i64 p2] 29)
    obtain ⟨z0, z1⟩ := (H_b.out.alloc (.cells #[.int .i64 p0, .int .i64 m1, .int .i64 p2] 29)).c2
    go_wp2_with fail
    clear z0 z1
    refine (find_to h7.out (by first | exact HSB.out | exact HSB.out.below (grew1 (Below.refl _ _)) | exact HSB.out.below (grew2 (Below.refl _ _)) | exact HSB.out.below (grew3 (Below.refl _ _)))).mono ?_
    rintro e w8 ⟨rfl, hb_w8⟩
    have HB_w8 : Below w.heap.size w w8 := by first | exact after0 HB_w7 hb_w8 | exact after1 HB_w7 hb_w8 | exact after2 HB_w7 hb_w8 | exact after3 HB_w7 hb_w8 | exact after4 HB_w7 hb_w8 | exact after5 HB_w7 hb_w8
    try clear q_c_0 q_c_1
    have H_c := Lib.hid (Box.below (by first | exact H_c.out | exact H_c.out.alloc _ | exact (H_c.out.alloc _).alloc _ | exact ((H_c.out.alloc _).alloc _).alloc _) hb_w8)
    obtain ⟨q_c_0, q_c_1⟩ := H_c.out.c2
    try clear q_m_0 q_m_1 q_m_2
    have H_m := Lib.hid (Box.below (by first | exact H_m.out | exact H_m.out.alloc _ | exact (H_m.out.alloc _).alloc _ | exact ((H_m.out.alloc _).alloc _).alloc _) hb_w8)
    obtain ⟨q_m_0, q_m_1, q_m_2⟩ := H_m.out.c3
    try clear q_p_0 q_p_1 q_p_2
    have H_p := Lib.hid (Box.below (by first | exact H_p.out | exact H_p.out.alloc _ | exact (H_p.out.alloc _).alloc _ | exact ((H_p.out.alloc _).alloc _).alloc _) hb_w8)
    obtain ⟨q_p_0, q_p_1, q_p_2⟩ := H_p.out.c3
    replace HSC := Lib.hid (show Sl w8 _ _ _ _ _ _ by first | exact HSC.out.below hb_w8 | exact (HSC.out.below (grew1 (Below.refl _ _))).below hb_w8 | exact (HSC.out.below (grew2 (Below.refl _ _))).below hb_w8 | exact (HSC.out.below (grew3 (Below.refl _ _))).below hb_w8)
    have H_q := Lib.hid (Box.new w8 [.int .i64 q0, .int .i64 m1, .int .i64 q2] 29)
    obtain ⟨z0, z1⟩ := (H_c.out.alloc (.cells #[.int .i64 q0, .int .i64 m1, .int .i64 q2] 29)).c2
    go_wp2_with fail
    clear z0 z1
    refine (find_to h8.out (by first | exact HSC.out | exact HSC.out.below (grew1 (Below.refl _ _)) | exact HSC.out.below (grew2 (Below.refl _ _)) | exact HSC.out.below (grew3 (Below.refl _ _)))).mono ?_
    rintro e w9 ⟨rfl, hb_w9⟩
    have HB_w9 : Below w.heap.size w w9 := by first | exact after0 HB_w8 hb_w9 | exact after1 HB_w8 hb_w9 | exact after2 HB_w8 hb_w9 | exact after3 HB_w8 hb_w9 | exact after4 HB_w8 hb_w9 | exact after5 HB_w8 hb_w9
    try clear q_m_0 q_m_1 q_m_2
    have H_m := Lib.hid (Box.below (by first | exact H_m.out | exact H_m.out.alloc _ | exact (H_m.out.alloc _).alloc _ | exact ((H_m.out.alloc _).alloc _).alloc _) hb_w9)
    obtain ⟨q_m_0, q_m_1, q_m_2⟩ := H_m.out.c3
    try clear q_p_0 q_p_1 q_p_2
    have H_p := Lib.hid (Box.below (by first | exact H_p.out | exact H_p.out.alloc _ | exact (H_p.out.alloc _).alloc _ | exact ((H_p.out.alloc _).alloc _).alloc _) hb_w9)
    obtain ⟨q_p_0, q_p_1, q_p_2⟩ := H_p.out.c3
    try clear q_q_0 q_q_1 q_q_2
    have H_q := Lib.hid (Box.below (by first | exact H_q.out | exact H_q.out.alloc _ | exact (H_q.out.alloc _).alloc _ | exact ((H_q.out.alloc _).alloc _).alloc _) hb_w9)
    obtain ⟨q_q_0, q_q_1, q_q_2⟩ := H_q.out.c3
    clear q_m_0 q_m_1 q_m_2 q_p_0 q_p_1 q_p_2 q_q_0 q_q_1 q_q_2
    obtain ⟨W2, hW2, HB_W2, hZ, hY⟩ := boxes1 w9 [.int .i64 o0, .int .i64 o1, .int .i64 o2] 29
    have H_o := Lib.hid hY
    replace H_m := Lib.hid (H_m.out.below HB_W2)
    replace H_p := Lib.hid (H_p.out.below HB_W2)
    replace H_q := Lib.hid (H_q.out.below HB_W2)
    replace HB_W2 := after0 HB_w9 HB_W2
    clear hY hZ
    obtain ⟨q_m_0, q_m_1, q_m_2⟩ := H_m.out.c3
    obtain ⟨q_p_0, q_p_1, q_p_2⟩ := H_p.out.c3
    obtain ⟨q_q_0, q_q_1, q_q_2⟩ := H_q.out.c3
    obtain ⟨q_o_0, q_o_1, q_o_2⟩ := H_o.out.c3
    go_wp2_with fail
    all_goals try (exfalso; omega)
    all_goals try (go_ret; first | exact ⟨rfl, HB_W2⟩ | (refine ⟨ret_bool ?_, HB_W2⟩; simp; omega))
end Go.Proofs.Ytmnlkndbdcdngaa
