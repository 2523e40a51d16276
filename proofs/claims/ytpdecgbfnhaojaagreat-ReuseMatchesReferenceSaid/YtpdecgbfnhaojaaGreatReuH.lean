/-
  The examples of chapter 35.
-/
import Derived.Test.YtpdecgbfnhaojaaGreatReuW
import Derived.Test.YtpdecgbfnhaojaaGreatNumT
set_option linter.unusedVariables false
namespace Go.Proofs.YtpdecgbfnhaojaaGreat
open Go.RowKit Nb Sk Ck Ru Go.Sort

def xc : Clk := ⟨0, -5, 3, 0⟩
def xd : Clk := ⟨0, 0, 0, 1000⟩
def xl : List Us := [⟨⟨1, 2, 1⟩, 50, 124⟩]
theorem x1 : freeF 100 20 [xc] = (124, 0) := by kernel_rfl
theorem x2 : freeF 1980 20 [xc, xd] = (2004, 0) := by kernel_rfl
theorem x3 : holds xc 100 20 115 = (1, 0) := by kernel_rfl
theorem x4 : holds xc 100 20 116 = (0, 0) := by kernel_rfl
theorem x5 : holds xc 100 20 124 = (-1, 0) := by kernel_rfl
theorem x6 : takeR [] 1 2 50 100 20 [xc] = (xl, ⟨1, 2, 1⟩, 0) := by kernel_rfl
theorem x7 : oldR xl ⟨1, 2, 1⟩ xc 55 = (0, 0) := by kernel_rfl
theorem x8 : oldR xl ⟨1, 2, 1⟩ xc 128 = (0, 0) := by kernel_rfl
theorem x9 : oldR xl ⟨1, 2, 1⟩ xc 129 = (0, 4) := by kernel_rfl
theorem x10 : waitR xl 1 2 50 = (50, 0) := by kernel_rfl

section
variable {u k t r st kd now n1 n2 n3 x y q : Int} {ao : Option Addr} {n cap : Nat} {w : World}
theorem free_to {l : List Clk} (h : freeF u k l = (x, y)) (hs : Sl w 4 cC ao n cap l) : Calls Tryz.prog 6 #[.int .i64 u, .int .i64 k, .slice ao n cap] w (Ret w (.tuple #[.int .i64 x, .int .i64 y])) := by
  have := Free_any u k ao n cap l w hs
  rwa [h] at this
theorem holds_to {c : Clk} (h : holds c u k t = (x, y)) : Calls Tryz.prog 8 #[eC c, .int .i64 u, .int .i64 k, .int .i64 t] w (Ret w (.tuple #[.int .i64 x, .int .i64 y])) := by
  have := Holds_any c u k t w
  rwa [h] at this
theorem old_to {l : List Us} {c : Clk} (h : oldR l ⟨n1, n2, n3⟩ c r = (x, y)) (hs : Sl w 5 cU ao n cap l) : Calls Tryz.prog 15 #[.slice ao n cap, .agg #[.int .i64 n1, .int .i64 n2, .int .i64 n3], eC c, .int .i64 r] w (Ret w (.tuple #[.int .i64 x, .int .i64 y])) := by
  have := Old_any ao n cap l n1 n2 n3 c r w hs
  rwa [h] at this
theorem wait_to (hso : SortOk) {l : List Us} (h : waitR l st kd now = (x, y)) (hs : Sl w 5 cU ao n cap l) : Calls Tryz.prog 13 #[.slice ao n cap, .int .i64 st, .int .i64 kd, .int .i64 now] w (Ret w (.tuple #[.int .i64 x, .int .i64 y])) := by
  have := Wait_any hso ao n cap l st kd now w hs
  rwa [h] at this
theorem take_to {l l' : List Us} {co : Option Addr} {cn cc : Nat} {cs : List Clk} (h : takeR l st kd now u k cs = (l', ⟨n1, n2, n3⟩, q)) (hs : Sl w 5 cU ao n cap l) (hc : Sl w 4 cC co cn cc cs) :
    Calls Tryz.prog 10 #[.slice ao n cap, .int .i64 st, .int .i64 kd, .int .i64 now, .int .i64 u, .int .i64 k, .slice co cn cc] w
      (fun e w' => ∃ ao' n' cap', e = .returned (.tuple #[.slice ao' n' cap', .agg #[.int .i64 n1, .int .i64 n2, .int .i64 n3], .int .i64 q]) ∧ Sl w' 5 cU ao' n' cap' l' ∧ Below w.heap.size w w') := by
  have := Take_any ao n cap l st kd now u k co cn cc cs w hs hc
  rw [h] at this
  exact this.mono fun e w' ⟨a, b, c, h1, h2, _, h4⟩ => ⟨a, b, c, h1, h2, h4⟩
end

set_option maxRecDepth 100000 in
set_option maxHeartbeats 8000000 in
theorem head_any (hso : SortOk) (w : World) : Calls Tryz.prog 4 #[] w (Ret w (.bool true)) := by
  have HSO := Lib.hid hso
  clear hso
  have HB_w : Below w.heap.size w w := Below.refl _ _
  obtain ⟨W0, hW0, HB_W0, hZ, hn, hm⟩ := boxes2 w [.int .i64 0, .int .i64 (-5), .int .i64 3, .int .i64 0] [.int .i64 0, .int .i64 0, .int .i64 0, .int .i64 1000] 27 27
  have H_c := Lib.hid hn
  have H_d := Lib.hid hm
  clear hn hm hZ
  obtain ⟨q_c_0, q_c_1, q_c_2, q_c_3⟩ := H_c.out.c4
  obtain ⟨q_d_0, q_d_1, q_d_2, q_d_3⟩ := H_d.out.c4
  go_enter Tryz.func4, Tryz.ntmps4
  go_wp2_with fail
  clear hW0
  refine (free_to x1 (ao := some ⟨W0.heap.size, 0, none⟩) (n := 1) (cap := 1) (Sl.one (x := xc) (fun _ => rfl) (Box.new W0 (cC xc) 27))).mono ?_
  rintro e wa ⟨rfl, hb⟩
  have HB_wa : Below w.heap.size w wa := by first | exact after0 HB_W0 hb | exact after1 HB_W0 hb
  have hb1 : Below W0.heap.size W0 wa := by first | exact hb | exact (grew1 (Below.refl _ _)).trans (hb.mono (by simp))
  replace H_c := Lib.hid (H_c.out.below hb1)
  try (have H_d2 := Lib.hid (H_d.out.below hb1); clear H_d; have H_d := H_d2; clear H_d2)
  try (have H_n2 := Lib.hid (H_n.out.below hb1); clear H_n; have H_n := H_n2; clear H_n2)
  try (have HL2 := Lib.hid (HL.out.below hb1); clear HL; have HL := HL2; clear HL2)
  clear hb hb1 q_c_0 q_c_1 q_c_2 q_c_3
  try clear q_d_0 q_d_1 q_d_2 q_d_3
  try clear q_n_0 q_n_1 q_n_2
  obtain ⟨q_c_0, q_c_1, q_c_2, q_c_3⟩ := H_c.out.c4
  try obtain ⟨q_d_0, q_d_1, q_d_2, q_d_3⟩ := H_d.out.c4
  try obtain ⟨q_n_0, q_n_1, q_n_2⟩ := H_n.out.c3
  go_wp2_with fail
  refine (free_to x2 (ao := some ⟨wa.heap.size, 0, none⟩) (n := 2) (cap := 2) (Sl.lit (l := [xc, xd]) (fun _ => rfl) (Box.new wa ([xc, xd].flatMap cC) 27) (by simp [maxLen]))).mono ?_
  rintro e wb ⟨rfl, hb⟩
  have HB_wb : Below w.heap.size w wb := by first | exact after0 HB_wa hb | exact after1 HB_wa hb
  have hb1 : Below wa.heap.size wa wb := by first | exact hb | exact (grew1 (Below.refl _ _)).trans (hb.mono (by simp))
  replace H_c := Lib.hid (H_c.out.below hb1)
  try (have H_d2 := Lib.hid (H_d.out.below hb1); clear H_d; have H_d := H_d2; clear H_d2)
  try (have H_n2 := Lib.hid (H_n.out.below hb1); clear H_n; have H_n := H_n2; clear H_n2)
  try (have HL2 := Lib.hid (HL.out.below hb1); clear HL; have HL := HL2; clear HL2)
  clear hb hb1 q_c_0 q_c_1 q_c_2 q_c_3
  try clear q_d_0 q_d_1 q_d_2 q_d_3
  try clear q_n_0 q_n_1 q_n_2
  obtain ⟨q_c_0, q_c_1, q_c_2, q_c_3⟩ := H_c.out.c4
  try obtain ⟨q_d_0, q_d_1, q_d_2, q_d_3⟩ := H_d.out.c4
  try obtain ⟨q_n_0, q_n_1, q_n_2⟩ := H_n.out.c3
  go_wp2_with fail
  refine (holds_to x3).mono ?_
  rintro e wc ⟨rfl, hb⟩
  have HB_wc : Below w.heap.size w wc := by first | exact after0 HB_wb hb | exact after1 HB_wb hb
  have hb1 : Below wb.heap.size wb wc := by first | exact hb | exact (grew1 (Below.refl _ _)).trans (hb.mono (by simp))
  replace H_c := Lib.hid (H_c.out.below hb1)
  try (have H_d2 := Lib.hid (H_d.out.below hb1); clear H_d; have H_d := H_d2; clear H_d2)
  try (have H_n2 := Lib.hid (H_n.out.below hb1); clear H_n; have H_n := H_n2; clear H_n2)
  try (have HL2 := Lib.hid (HL.out.below hb1); clear HL; have HL := HL2; clear HL2)
  clear hb hb1 q_c_0 q_c_1 q_c_2 q_c_3
  try clear q_d_0 q_d_1 q_d_2 q_d_3
  try clear q_n_0 q_n_1 q_n_2
  obtain ⟨q_c_0, q_c_1, q_c_2, q_c_3⟩ := H_c.out.c4
  try obtain ⟨q_d_0, q_d_1, q_d_2, q_d_3⟩ := H_d.out.c4
  try obtain ⟨q_n_0, q_n_1, q_n_2⟩ := H_n.out.c3
  go_wp2_with fail
  refine (holds_to x4).mono ?_
  rintro e wd ⟨rfl, hb⟩
  have HB_wd : Below w.heap.size w wd := by first | exact after0 HB_wc hb | exact after1 HB_wc hb
  have hb1 : Below wc.heap.size wc wd := by first | exact hb | exact (grew1 (Below.refl _ _)).trans (hb.mono (by simp))
  replace H_c := Lib.hid (H_c.out.below hb1)
  try (have H_d2 := Lib.hid (H_d.out.below hb1); clear H_d; have H_d := H_d2; clear H_d2)
  try (have H_n2 := Lib.hid (H_n.out.below hb1); clear H_n; have H_n := H_n2; clear H_n2)
  try (have HL2 := Lib.hid (HL.out.below hb1); clear HL; have HL := HL2; clear HL2)
  clear hb hb1 q_c_0 q_c_1 q_c_2 q_c_3
  try clear q_d_0 q_d_1 q_d_2 q_d_3
  try clear q_n_0 q_n_1 q_n_2
  obtain ⟨q_c_0, q_c_1, q_c_2, q_c_3⟩ := H_c.out.c4
  try obtain ⟨q_d_0, q_d_1, q_d_2, q_d_3⟩ := H_d.out.c4
  try obtain ⟨q_n_0, q_n_1, q_n_2⟩ := H_n.out.c3
  go_wp2_with fail
  refine (holds_to x5).mono ?_
  rintro e we ⟨rfl, hb⟩
  clear H_d q_d_0 q_d_1 q_d_2 q_d_3
  have HB_we : Below w.heap.size w we := by first | exact after0 HB_wd hb | exact after1 HB_wd hb
  have hb1 : Below wd.heap.size wd we := by first | exact hb | exact (grew1 (Below.refl _ _)).trans (hb.mono (by simp))
  replace H_c := Lib.hid (H_c.out.below hb1)
  try (have H_d2 := Lib.hid (H_d.out.below hb1); clear H_d; have H_d := H_d2; clear H_d2)
  try (have H_n2 := Lib.hid (H_n.out.below hb1); clear H_n; have H_n := H_n2; clear H_n2)
  try (have HL2 := Lib.hid (HL.out.below hb1); clear HL; have HL := HL2; clear HL2)
  clear hb hb1 q_c_0 q_c_1 q_c_2 q_c_3
  try clear q_d_0 q_d_1 q_d_2 q_d_3
  try clear q_n_0 q_n_1 q_n_2
  obtain ⟨q_c_0, q_c_1, q_c_2, q_c_3⟩ := H_c.out.c4
  try obtain ⟨q_d_0, q_d_1, q_d_2, q_d_3⟩ := H_d.out.c4
  try obtain ⟨q_n_0, q_n_1, q_n_2⟩ := H_n.out.c3
  go_wp2_with fail
  refine (take_to x6 Sl.nil (co := some ⟨we.heap.size, 0, none⟩) (cn := 1) (cc := 1) (Sl.one (x := xc) (fun _ => rfl) (Box.new we (cC xc) 27))).mono ?_
  rintro e wf ⟨ao, n, cap, rfl, hl, hb⟩
  have HB_wf : Below w.heap.size w wf := by first | exact after0 HB_we hb | exact after1 HB_we hb
  have hb1 : Below we.heap.size we wf := by first | exact hb | exact (grew1 (Below.refl _ _)).trans (hb.mono (by simp))
  replace H_c := Lib.hid (H_c.out.below hb1)
  try (have H_d2 := Lib.hid (H_d.out.below hb1); clear H_d; have H_d := H_d2; clear H_d2)
  try (have H_n2 := Lib.hid (H_n.out.below hb1); clear H_n; have H_n := H_n2; clear H_n2)
  try (have HL2 := Lib.hid (HL.out.below hb1); clear HL; have HL := HL2; clear HL2)
  clear hb hb1 q_c_0 q_c_1 q_c_2 q_c_3
  try clear q_d_0 q_d_1 q_d_2 q_d_3
  try clear q_n_0 q_n_1 q_n_2
  obtain ⟨q_c_0, q_c_1, q_c_2, q_c_3⟩ := H_c.out.c4
  try obtain ⟨q_d_0, q_d_1, q_d_2, q_d_3⟩ := H_d.out.c4
  try obtain ⟨q_n_0, q_n_1, q_n_2⟩ := H_n.out.c3
  have HL := Lib.hid hl
  obtain ⟨W1, hW1, hB1, hZ1, hb1⟩ := boxes1 wf [.int .i64 1, .int .i64 2, .int .i64 1] 29
  have H_n := Lib.hid hb1
  have HB_W1 : Below w.heap.size w W1 := after0 HB_wf hB1
  replace H_c := Lib.hid (H_c.out.below hB1)
  replace HL := Lib.hid (HL.out.below hB1)
  clear hl hb1 hZ1 hB1 q_c_0 q_c_1 q_c_2 q_c_3
  obtain ⟨q_c_0, q_c_1, q_c_2, q_c_3⟩ := H_c.out.c4
  obtain ⟨q_n_0, q_n_1, q_n_2⟩ := H_n.out.c3
  go_wp2_with fail
  refine (old_to x7 HL.out).mono ?_
  rintro e wg ⟨rfl, hb⟩
  clear hW1
  have HB_wg : Below w.heap.size w wg := by first | exact after0 HB_W1 hb | exact after1 HB_W1 hb
  have hb1 : Below W1.heap.size W1 wg := by first | exact hb | exact (grew1 (Below.refl _ _)).trans (hb.mono (by simp))
  replace H_c := Lib.hid (H_c.out.below hb1)
  try (have H_d2 := Lib.hid (H_d.out.below hb1); clear H_d; have H_d := H_d2; clear H_d2)
  try (have H_n2 := Lib.hid (H_n.out.below hb1); clear H_n; have H_n := H_n2; clear H_n2)
  try (have HL2 := Lib.hid (HL.out.below hb1); clear HL; have HL := HL2; clear HL2)
  clear hb hb1 q_c_0 q_c_1 q_c_2 q_c_3
  try clear q_d_0 q_d_1 q_d_2 q_d_3
  try clear q_n_0 q_n_1 q_n_2
  obtain ⟨q_c_0, q_c_1, q_c_2, q_c_3⟩ := H_c.out.c4
  try obtain ⟨q_d_0, q_d_1, q_d_2, q_d_3⟩ := H_d.out.c4
  try obtain ⟨q_n_0, q_n_1, q_n_2⟩ := H_n.out.c3
  go_wp2_with fail
  refine (old_to x8 HL.out).mono ?_
  rintro e wh ⟨rfl, hb⟩
  have HB_wh : Below w.heap.size w wh := by first | exact after0 HB_wg hb | exact after1 HB_wg hb
  have hb1 : Below wg.heap.size wg wh := by first | exact hb | exact (grew1 (Below.refl _ _)).trans (hb.mono (by simp))
  replace H_c := Lib.hid (H_c.out.below hb1)
  try (have H_d2 := Lib.hid (H_d.out.below hb1); clear H_d; have H_d := H_d2; clear H_d2)
  try (have H_n2 := Lib.hid (H_n.out.below hb1); clear H_n; have H_n := H_n2; clear H_n2)
  try (have HL2 := Lib.hid (HL.out.below hb1); clear HL; have HL := HL2; clear HL2)
  clear hb hb1 q_c_0 q_c_1 q_c_2 q_c_3
  try clear q_d_0 q_d_1 q_d_2 q_d_3
  try clear q_n_0 q_n_1 q_n_2
  obtain ⟨q_c_0, q_c_1, q_c_2, q_c_3⟩ := H_c.out.c4
  try obtain ⟨q_d_0, q_d_1, q_d_2, q_d_3⟩ := H_d.out.c4
  try obtain ⟨q_n_0, q_n_1, q_n_2⟩ := H_n.out.c3
  go_wp2_with fail
  refine (old_to x9 HL.out).mono ?_
  rintro e wi ⟨rfl, hb⟩
  have HB_wi : Below w.heap.size w wi := by first | exact after0 HB_wh hb | exact after1 HB_wh hb
  have hb1 : Below wh.heap.size wh wi := by first | exact hb | exact (grew1 (Below.refl _ _)).trans (hb.mono (by simp))
  replace H_c := Lib.hid (H_c.out.below hb1)
  try (have H_d2 := Lib.hid (H_d.out.below hb1); clear H_d; have H_d := H_d2; clear H_d2)
  try (have H_n2 := Lib.hid (H_n.out.below hb1); clear H_n; have H_n := H_n2; clear H_n2)
  try (have HL2 := Lib.hid (HL.out.below hb1); clear HL; have HL := HL2; clear HL2)
  clear hb hb1 q_c_0 q_c_1 q_c_2 q_c_3
  try clear q_d_0 q_d_1 q_d_2 q_d_3
  try clear q_n_0 q_n_1 q_n_2
  obtain ⟨q_c_0, q_c_1, q_c_2, q_c_3⟩ := H_c.out.c4
  try obtain ⟨q_d_0, q_d_1, q_d_2, q_d_3⟩ := H_d.out.c4
  try obtain ⟨q_n_0, q_n_1, q_n_2⟩ := H_n.out.c3
  go_wp2_with fail
  refine (wait_to HSO.out x10 HL.out).mono ?_
  rintro e wj ⟨rfl, hb⟩
  have HB_wj : Below w.heap.size w wj := by first | exact after0 HB_wi hb | exact after1 HB_wi hb
  have hb1 : Below wi.heap.size wi wj := by first | exact hb | exact (grew1 (Below.refl _ _)).trans (hb.mono (by simp))
  replace H_c := Lib.hid (H_c.out.below hb1)
  try (have H_d2 := Lib.hid (H_d.out.below hb1); clear H_d; have H_d := H_d2; clear H_d2)
  try (have H_n2 := Lib.hid (H_n.out.below hb1); clear H_n; have H_n := H_n2; clear H_n2)
  try (have HL2 := Lib.hid (HL.out.below hb1); clear HL; have HL := HL2; clear HL2)
  clear hb hb1 q_c_0 q_c_1 q_c_2 q_c_3
  try clear q_d_0 q_d_1 q_d_2 q_d_3
  try clear q_n_0 q_n_1 q_n_2
  obtain ⟨q_c_0, q_c_1, q_c_2, q_c_3⟩ := H_c.out.c4
  try obtain ⟨q_d_0, q_d_1, q_d_2, q_d_3⟩ := H_d.out.c4
  try obtain ⟨q_n_0, q_n_1, q_n_2⟩ := H_n.out.c3
  obtain ⟨b, off, rfl, hbb, hrow⟩ := HL.out.get (i := 0) (by decide)
  have hR := hrow 0 (by decide)
  rw [Nat.zero_mul, Nat.add_zero] at hR
  obtain ⟨e_0, e_1, e_2, e_3, e_4⟩ := (show Cells wj b off [.int .i64 1, .int .i64 2, .int .i64 1, .int .i64 50, .int .i64 124] from hR).c5
  have hn : n = 1 := HL.out.len.symm
  subst hn
  have HRS := Lib.hid (fun V (hV : Below (wj.alloc (.cells #[.int .i64 1, .int .i64 2, .int .i64 1, .int .i64 50, .int .i64 124] 43)).heap.size (wj.alloc (.cells #[.int .i64 1, .int .i64 2, .int .i64 1, .int .i64 50, .int .i64 124] 43)) V) => rsame_any (some ⟨b, off, none⟩) (some ⟨wj.heap.size, 0, none⟩) 1 cap 1 1 xl xl V ((HL.out.below (grew1 (Below.refl _ _))).below hV) ((show Sl _ 5 cU (some ⟨wj.heap.size, 0, none⟩) 1 1 xl from Sl.one (enc := cU) (x := (⟨⟨1, 2, 1⟩, 50, 124⟩ : Us)) cU_len (Box.new wj (cU ⟨⟨1, 2, 1⟩, 50, 124⟩) 43)).below hV))
  rw [show decide (xl = xl) = true by simp] at HRS
  clear hrow hR q_c_0 q_c_1 q_c_2 q_c_3
  go_wp2_with fail
  have y_e_0 := cell_regrown e_0
  have y_e_1 := cell_regrown e_1
  have y_e_2 := cell_regrown e_2
  have y_e_3 := cell_regrown e_3
  have y_e_4 := cell_regrown e_4
  clear e_0 e_1 e_2 e_3 e_4
  have y_q_n_0 := cell_regrown q_n_0
  have y_q_n_1 := cell_regrown q_n_1
  have y_q_n_2 := cell_regrown q_n_2
  clear q_n_0 q_n_1 q_n_2
  refine wp_region_plan (C := fun w' => ∃ p : Regrown, w' = grow (redrawn wj p.d) p.os) (.q 0 (.q 1 (.q 2 (.q 3 (.q 4 (.e 5 (.e 6 (.q 7 (.q 8 (.q 9 (.q 10 (.q 11 (.q 12 (.q 13 (.q 14 (.q 15 (.q 16 (.done)))))))))))))))))) 17 (by kernel_rfl) (by kernel_rfl) (grew_drew _) ?_
  repeat (any_goals (first | (go_big_quiet_skip; refine wpQuiet_nil ?_) | (go_big_quiet_want; go_big_quiet_op; go_big_quiet_on; refine wpQuiet_nil ?_) | ((with_reducible apply q_split); exact rfl; intro q hq; cases q <;> (rw [hq]; (try first | replace hq := bnot_t hq | replace hq := bnot_f hq); (try first | replace hq := of_decide_eq_true hq | replace hq := of_decide_eq_false hq | replace hq := eq_of_beq hq); (try first | replace hq := Int.not_lt.1 hq | replace hq := Int.not_le.1 hq | replace hq := Nat.not_lt.1 hq | replace hq := Nat.not_le.1 hq); try (exfalso; omega))) | (refine plan_q rfl rfl ?_)))
  refine plan_e rfl ?_
  go_wp2_with fail
  refine MixPost.intro (grew_of_below ((grew1 (Below.refl _ _)).drew)) ?_
  repeat (any_goals (first | (go_big_quiet_skip; refine wpQuiet_nil ?_) | (go_big_quiet_want; go_big_quiet_op; go_big_quiet_on; refine wpQuiet_nil ?_) | ((with_reducible apply q_split); exact rfl; intro q hq; cases q <;> (rw [hq]; (try first | replace hq := bnot_t hq | replace hq := bnot_f hq); (try first | replace hq := of_decide_eq_true hq | replace hq := of_decide_eq_false hq | replace hq := eq_of_beq hq); (try first | replace hq := Int.not_lt.1 hq | replace hq := Int.not_le.1 hq | replace hq := Nat.not_lt.1 hq | replace hq := Nat.not_le.1 hq); try (exfalso; omega))) | (refine plan_q rfl rfl ?_)))
  refine plan_e rfl ?_
  go_wp2_with fail
  refine (HRS.out _ ((Below.refl _ _).drew)).mono ?_
  rintro e wk ⟨rfl, hb⟩
  have HW : Below wj.heap.size wj wk := after0 ((grew1 (Below.refl _ _)).drew) hb
  clear hb
  go_wp2_with fail
  refine MixPost.intro (grew_of_below HW) ?_
  repeat (any_goals (first | (go_big_quiet_skip; refine wpQuiet_nil ?_) | (go_big_quiet_want; go_big_quiet_op; go_big_quiet_on; refine wpQuiet_nil ?_) | ((with_reducible apply q_split); exact rfl; intro q hq; cases q <;> (rw [hq]; (try first | replace hq := bnot_t hq | replace hq := bnot_f hq); (try first | replace hq := of_decide_eq_true hq | replace hq := of_decide_eq_false hq | replace hq := eq_of_beq hq); (try first | replace hq := Int.not_lt.1 hq | replace hq := Int.not_le.1 hq | replace hq := Nat.not_lt.1 hq | replace hq := Nat.not_le.1 hq); try (exfalso; omega))) | (refine plan_q rfl rfl ?_)))
  clear y_e_0 y_e_1 y_e_2 y_e_3 y_e_4
  clear y_q_n_0 y_q_n_1 y_q_n_2
  all_goals refine plan_done ?_
  all_goals (try simp only [List.drop_succ_cons, List.drop_zero])
  all_goals (try go_wp2_with fail)
  all_goals refine NoPanic.normal ?_
  all_goals (try go_wp2_with fail)
  go_ret
  exact ⟨rfl, after0 HB_wj HW⟩
end Go.Proofs.YtpdecgbfnhaojaaGreat
