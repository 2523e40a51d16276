/-
  The examples of 'TopAgain', and its plain law.
-/
import Derived.Test.YtpdecgbfnhaojaaReuJ
import Derived.Test.YtpdecgbfnhaojaaNumU
set_option linter.unusedVariables false
namespace Ru
open Nb Ck Go.Proofs.Ytpdecgbfnhaojaa

/-- what stands behind the requests that were taken -/
structure Kept (keep : Int) (cs : List Clk) (rows_ : List Us) (unt : List Int) : Prop where
  ok : RowsOk rows_
  len : unt.length = rows_.length
  free : ∀ i (h : i < rows_.length) (h2 : i < unt.length), ∃ t, freeF unt[i] keep cs = (t, 0) ∧ t ≤ rows_[i].fe

theorem Kept.nil (keep : Int) (cs : List Clk) : Kept keep cs [] [] :=
  ⟨⟨by simp, by simp, by simp, by simp⟩, rfl, fun i h => by simp at h⟩
/-- a request that is taken -/
theorem Kept.step {keep : Int} {cs : List Clk} {l l' : List Us} {unt : List Int} {kd now u e : Int} {x : Nm} (h : Kept keep cs l unt) (ht : takeR l 1 kd now u keep cs = (l', x, e)) :
    e ≠ 0 ∨ (e = 0 ∧ tm now = true ∧ ∃ b, l' = l ++ [b] ∧ b.nm = x ∧ b.fr = now ∧ Kept keep cs l' (unt ++ [u]) ∧ ∀ i (hi : i < l.length) (hu : i < unt.length), l[i].nm = x → ∃ t, freeF unt[i] keep cs = (t, 0) ∧ t ≤ now) := by
  rcases takeR_cases l 1 kd now u keep cs with ⟨e', h1, h2⟩ | ⟨y, t, h1, h2, h3, h4, h5, h6, h7, h8, h9⟩
  · left; rw [h1] at ht; simp only [Prod.mk.injEq] at ht; rw [← ht.2.2]; exact h2
  · right
    rw [h2] at ht
    simp only [Prod.mk.injEq] at ht
    obtain ⟨rfl, rfl, rfl⟩ := ht
    refine ⟨rfl, h8, _, rfl, rfl, rfl, ⟨h4, by simp [h.len], ?_⟩, ?_⟩
    · intro i hi hu
      by_cases hil : i < l.length
      · obtain ⟨t', ha, hb⟩ := h.free i hil (by rw [h.len]; exact hil)
        refine ⟨t', ?_, ?_⟩
        · rw [List.getElem_append_left (by rw [h.len]; exact hil)]; exact ha
        · rw [List.getElem_append_left hil]; exact hb
      · have hi2 : i = l.length := by simp at hi; omega
        subst hi2
        refine ⟨t, ?_, ?_⟩
        · have : (unt ++ [u])[l.length]'hu = u := by simp [← h.len]
          rw [this]; exact h1
        · simp; omega
    · intro i hi hu hn
      obtain ⟨t', ha, hb⟩ := h.free i hi hu
      refine ⟨t', ha, ?_⟩
      have := List.pairwise_iff_getElem.1 h4.disj i l.length (by simp; omega) (by simp) hi (by rw [List.getElem_append_left hi]; simpa using hn)
      rw [List.getElem_append_left hi] at this
      simp at this
      omega
end Ru
namespace Go.Proofs.Ytpdecgbfnhaojaa
open Go.RowKit Nb Sk Ck Ru Go.Sort

set_option maxRecDepth 100000 in
set_option maxHeartbeats 8000000 in
theorem headT_any (w : World) : Calls Try.prog 24 #[] w (Ret w (.bool true)) := by
  go_enter Try.func24, Try.ntmps24
  go_wp2_with fail
  obtain ⟨W0, hW0, HB_W0, hZ, hn⟩ := boxes1 w [.int .i64 0, .int .i64 (-5), .int .i64 3, .int .i64 0] 44
  rw [hW0]
  have H_c := Lib.hid hn
  have hsl := Sl.one (k := 4) (enc := cC) (x := xc) (fun _ => rfl) (Box.new W0 (cC xc) 44)
  rw [hZ] at hsl
  clear hW0 hn hZ
  obtain ⟨q_c_0, q_c_1, q_c_2, q_c_3⟩ := H_c.out.c4
  refine (take_to x6 Sl.nil (co := some ⟨w.heap.size + 1, 0, none⟩) (cn := 1) (cc := 1) hsl).mono ?_
  rintro e wf ⟨ao, n, cap, rfl, hl, hb⟩
  have HB_wf : Below w.heap.size w wf := after1 HB_W0 hb
  have hb1 : Below W0.heap.size W0 wf := (grew1 (Below.refl _ _)).trans (hb.mono (by simp))
  replace H_c := Lib.hid (H_c.out.below hb1)
  have HL := Lib.hid hl
  clear hb hb1 hl q_c_0 q_c_1 q_c_2 q_c_3
  obtain ⟨W1, hW1, hB1, hZ1, hb1⟩ := boxes1 wf [.int .i64 1, .int .i64 2, .int .i64 1] 31
  have H_n := Lib.hid hb1
  have HB_W1 : Below w.heap.size w W1 := after0 HB_wf hB1
  replace H_c := Lib.hid (H_c.out.below hB1)
  replace HL := Lib.hid (HL.out.below hB1)
  clear hb1 hZ1 hB1
  obtain ⟨q_c_0, q_c_1, q_c_2, q_c_3⟩ := H_c.out.c4
  obtain ⟨q_n_0, q_n_1, q_n_2⟩ := H_n.out.c3
  go_wp2_with fail
  refine (holds_to x5).mono ?_
  rintro e wg ⟨rfl, hb_wg⟩
  have HB_wg : Below w.heap.size w wg := by first | exact after0 HB_W1 hb_wg | exact after1 HB_W1 hb_wg | exact after2 HB_W1 hb_wg | exact after3 HB_W1 hb_wg | exact after4 HB_W1 hb_wg | exact after5 HB_W1 hb_wg
  try clear q_c_0 q_c_1 q_c_2 q_c_3
  have H_c := Lib.hid (Box.below (by first | exact H_c.out | exact H_c.out.alloc _ | exact (H_c.out.alloc _).alloc _ | exact ((H_c.out.alloc _).alloc _).alloc _) hb_wg)
  obtain ⟨q_c_0, q_c_1, q_c_2, q_c_3⟩ := H_c.out.c4
  try clear q_n_0 q_n_1 q_n_2
  have H_n := Lib.hid (Box.below (by first | exact H_n.out | exact H_n.out.alloc _ | exact (H_n.out.alloc _).alloc _ | exact ((H_n.out.alloc _).alloc _).alloc _) hb_wg)
  obtain ⟨q_n_0, q_n_1, q_n_2⟩ := H_n.out.c3
  replace HL := Lib.hid (show Sl wg _ _ _ _ _ _ by first | exact HL.out.below hb_wg | exact (HL.out.below (grew1 (Below.refl _ _))).below hb_wg | exact (HL.out.below (grew2 (Below.refl _ _))).below hb_wg | exact (HL.out.below (grew3 (Below.refl _ _))).below hb_wg)
  clear hW1
  go_wp2_with fail
  refine (old_to x7 HL.out).mono ?_
  rintro e wh ⟨rfl, hb_wh⟩
  have HB_wh : Below w.heap.size w wh := by first | exact after0 HB_wg hb_wh | exact after1 HB_wg hb_wh | exact after2 HB_wg hb_wh | exact after3 HB_wg hb_wh | exact after4 HB_wg hb_wh | exact after5 HB_wg hb_wh
  try clear q_n_0 q_n_1 q_n_2
  have H_n := Lib.hid (Box.below (by first | exact H_n.out | exact H_n.out.alloc _ | exact (H_n.out.alloc _).alloc _ | exact ((H_n.out.alloc _).alloc _).alloc _) hb_wh)
  obtain ⟨q_n_0, q_n_1, q_n_2⟩ := H_n.out.c3
  replace HL := Lib.hid (show Sl wh _ _ _ _ _ _ by first | exact HL.out.below hb_wh | exact (HL.out.below (grew1 (Below.refl _ _))).below hb_wh | exact (HL.out.below (grew2 (Below.refl _ _))).below hb_wh | exact (HL.out.below (grew3 (Below.refl _ _))).below hb_wh)
  clear q_c_0 q_c_1 q_c_2 q_c_3
  obtain ⟨b, off, rfl, hbb, hrow⟩ := HL.out.get (i := 0) (by decide)
  have hR := hrow 0 (by decide)
  rw [Nat.zero_mul, Nat.add_zero] at hR
  obtain ⟨e_0, e_1, e_2, e_3, e_4⟩ := (show Cells wh b off [.int .i64 1, .int .i64 2, .int .i64 1, .int .i64 50, .int .i64 124] from hR).c5
  have hn : n = 1 := HL.out.len.symm
  subst hn
  clear hrow hR
  go_wp2_with fail
  go_ret
  exact ⟨rfl, HB_wh⟩
end Go.Proofs.Ytpdecgbfnhaojaa
