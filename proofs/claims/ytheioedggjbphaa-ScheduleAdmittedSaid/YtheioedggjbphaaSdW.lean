/-
  Walks: some, and Some, With of the reference implementation of 'schedule'.
-/
import Derived.Test.YtheioedggjbphaaSdB
import Derived.Test.YtheioedggjbphaaSdL
set_option linter.unusedVariables false
namespace Sc
theorem pick_take {J : List Jb} {q : List Nat} {k : Nat} (hk : k < q.length) (hx : q[k] < J.length) : pickJ J (q.take (k + 1)) = pickJ J (q.take k) ++ [J[q[k]]] := by
  unfold pickJ
  rw [List.take_add_one, List.getElem?_eq_getElem hk, Option.toList_some, List.map_append, List.map_singleton, jat_get hx]
theorem pick_len (J : List Jb) (q : List Nat) (k : Nat) : (pickJ J (q.take k)).length ≤ q.length := by
  unfold pickJ
  rw [List.length_map, List.length_take]
  omega
end Sc
namespace Go.Proofs.Ytheioedggjbphaa
open Go Go.RowKit Sc Sk Go.Sort
theorem cell_drew {w : World} {a : Addr} {v : Value} (h : w.cell? a = some v) : w.drew.cell? a = some v := h
/-- a row of jobs -/
def RowE (w : World) (l : List Jb) (e : Ending) (w' : World) : Prop := ∃ v, e = .returned v ∧ OwnL w' w.heap.size 44 4 cJ v l ∧ Below w.heap.size w w'
def RowB (w : World) (l : List Jb) (e : Ending) (w' : World) : Prop := ∃ v, e = .returned (.tuple #[v, .bool true]) ∧ OwnL w' w.heap.size 44 4 cJ v l ∧ Below w.heap.size w w'
def NatE (w : World) (l : List Nat) (e : Ending) (w' : World) : Prop := ∃ v, e = .returned v ∧ OwnL w' w.heap.size 3 1 cN v l ∧ Below w.heap.size w w'
set_option maxRecDepth 100000 in
set_option maxHeartbeats 8000000 in
theorem rsome_any (jo : Option Addr) (n cap : Nat) (J : List Jb) (qo : Option Addr) (m capq : Nat) (q : List Nat) (w : World) (hs : Sl w 4 cJ jo n cap J) (hq : Sl w 1 cN qo m capq q) (hm : ∀ x ∈ q, x < J.length) (hl : q.length ≤ 1000) :
    Calls Try.prog 51 #[.slice jo n cap, .slice qo m capq] w (RowE w (pickJ J q)) := by
  obtain rfl := hs.len
  obtain rfl := hq.len
  have hcap := hs.max
  have hle := hs.le
  have hcapq := hq.max
  have hleq := hq.le
  unfold maxLen at hcap hcapq
  have HS := Lib.hid hs
  have HQ := Lib.hid hq
  have HM := Lib.hid hm
  have HB_w : Below w.heap.size w w := Below.refl _ _
  clear hs hq hm
  obtain ⟨i0, hi, hz0, hz1, hz2⟩ := info_parts info_job
  have HI := Lib.hid hi
  have HZ0 := Lib.hid hz0
  have HZ1 := Lib.hid hz1
  have HZ2 := Lib.hid hz2
  obtain ⟨i1, hy, hy0, hy1, hy2⟩ := info_parts info_sent
  have HY := Lib.hid hy
  have HY0 := Lib.hid hy0
  have HY1 := Lib.hid hy1
  have HY2 := Lib.hid hy2
  clear hi hz0 hz1 hz2 hy hy0 hy1 hy2
  go_enter Try.func51, Try.ntmps51
  go_wp2_with fail
  go_loopw [5, 6] (fun o i wr => ∃ k : Nat, k ≤ q.length ∧ i = .int .i64 k ∧ Below w.heap.size w wr ∧ Hid (OwnL wr w.heap.size 44 4 cJ o (pickJ J (q.take k)))) (fun _ i _ => q.length - (intOf i).toNat)
  case atStart => exact ⟨0, Nat.zero_le _, rfl, HB_w, OwnL.nil⟩
  case round =>
    obtain ⟨k, hk, rfl, HB_wr, HO⟩ := hrel
    by_cases hlt : k < q.length
    ·
      obtain ⟨bq, offq, rfl, hbq, hrowq⟩ := (HQ.out.below HB_wr).get hlt
      have g_0 := (hrowq k hlt).c1
      have hyJ := HM.out _ (List.getElem_mem hlt)
      obtain ⟨bj, offj, rfl, hbj, hrow⟩ := (HS.out.below HB_wr).get hyJ
      obtain ⟨e_0, e_1, e_2, e_3⟩ := (hrow _ hyJ).c4
      have HSUC := Lib.hid (pick_take hlt hyJ)
      have hpl := pick_len J q (k)
      have hyi : (q[k] : Int) < (J.length : Int) := by omega
      rw [Nat.mul_one] at g_0
      try rw [Nat.add_zero] at g_0
      clear hrow
      generalize pickJ J (q.take k) = pre at *
      generalize J[q[k]] = y at *
      generalize q[k] = qk at *
      obtain ⟨y0, y1, y2, y3⟩ := y
      dsimp only at e_0 e_1 e_2 e_3
      have HOX := Lib.hid (HO.out.alloc (.cells #[.int .i64 y0, .int .i64 y1, .int .i64 y2, .int .i64 y3] 44))
      have HSX : Hid (Sl (wr.alloc (.cells #[.int .i64 y0, .int .i64 y1, .int .i64 y2, .int .i64 y3] 44)) 4 cJ (some ⟨wr.heap.size, 0, none⟩) 1 1 [(⟨y0, y1, y2, y3⟩ : Jb)]) := Sl.one (x := (⟨y0, y1, y2, y3⟩ : Jb)) cJ_len (Box.new wr (cJ ⟨y0, y1, y2, y3⟩) 44)
      have hsz : w.heap.size ≤ (wr.alloc (.cells #[.int .i64 y0, .int .i64 y1, .int .i64 y2, .int .i64 y3] 44)).heap.size := by have := HB_wr.size; simp; omega
      go_wp2_with (at_builtin; refine wpList_append_sl rfl _ _ 22 rfl w.heap.size 44 i0 _ 4 32 Try.underlying22 HI.out HZ0.out HZ1.out HZ2.out rfl (by decide) cJ_len cJ_one _ pre rfl HOX.out (some ⟨wr.heap.size, 0, none⟩) 1 1 [(⟨y0, y1, y2, y3⟩ : Jb)] rfl HSX.out (by unfold maxLen; omega) (by omega) hsz ?_)
      rintro v' w6 ho6 hg6 hgr6
      have HB_6 : Below w.heap.size w w6 := (grew1 HB_wr).trans (hg6 _ (Nat.le_refl _))
      have HO6 := Lib.hid (show OwnL w6 w.heap.size 44 4 cJ v' (pickJ J (q.take (k + 1))) by rw [HSUC.out]; exact ho6)
      clear hg6 hgr6 ho6 HOX HSX hsz HO
      clear e_0 e_1 e_2 e_3 g_0
      go_wp2_with fail
      go_roundw
      case rel => exact ⟨k + 1, hlt, by go_num, HB_6, HO6⟩
      case measure => simp [intOf] <;> omega
    · obtain rfl : k = q.length := by omega
      rw [List.take_length] at HO
      go_wp2_with fail
      all_goals try (exfalso; omega)
      go_ret
      exact ⟨_, rfl, HO.out, HB_wr⟩
set_option maxRecDepth 100000 in
set_option maxHeartbeats 8000000 in
theorem some_any (jo : Option Addr) (n cap : Nat) (J : List Jb) (qo : Option Addr) (m capq : Nat) (q : List Nat) (w : World) (hs : Sl w 4 cJ jo n cap J) (hq : Sl w 1 cN qo m capq q) (hm : ∀ x ∈ q, x < J.length) (hl : q.length ≤ 1000) (hr : q.Pairwise (· < ·)) :
    Calls Try.prog 29 #[.slice jo n cap, .slice qo m capq] w (RowB w (pickJ J q)) := by
  obtain rfl := hs.len
  obtain rfl := hq.len
  have hcap := hs.max
  have hle := hs.le
  have hcapq := hq.max
  have hleq := hq.le
  unfold maxLen at hcap hcapq
  have HS := Lib.hid hs
  have HQ := Lib.hid hq
  have HM := Lib.hid hm
  have HPW := Lib.hid (List.pairwise_iff_getElem.1 hr)
  have HB_w : Below w.heap.size w w := Below.refl _ _
  clear hs hq hm hr
  obtain ⟨i0, hi, hz0, hz1, hz2⟩ := info_parts info_job
  have HI := Lib.hid hi
  have HZ0 := Lib.hid hz0
  have HZ1 := Lib.hid hz1
  have HZ2 := Lib.hid hz2
  obtain ⟨i1, hy, hy0, hy1, hy2⟩ := info_parts info_sent
  have HY := Lib.hid hy
  have HY0 := Lib.hid hy0
  have HY1 := Lib.hid hy1
  have HY2 := Lib.hid hy2
  clear hi hz0 hz1 hz2 hy hy0 hy1 hy2
  go_enter Try.func29, Try.ntmps29
  go_wp2_with fail
  go_loopw [6, 7] (fun o i wr => ∃ k : Nat, k ≤ q.length ∧ i = .int .i64 k ∧ Below w.heap.size w wr ∧ Hid (OwnL wr w.heap.size 44 4 cJ o (pickJ J (q.take k)))) (fun _ i _ => q.length - (intOf i).toNat)
  case atStart => exact ⟨0, Nat.zero_le _, rfl, HB_w, OwnL.nil⟩
  case round =>
    obtain ⟨k, hk, rfl, HB_wr, HO⟩ := hrel
    by_cases hlt : k < q.length
    · have HRG := Lib.hid (show ∀ W, Below w.heap.size w W → Sl W 1 cN qo q.length capq q from fun W hW => HQ.out.below hW)
      rcases Nat.eq_zero_or_pos k with h0 | h0
      · subst h0
        obtain ⟨bq, offq, rfl, hbq, hrowq⟩ := (HQ.out.below HB_wr).get hlt
        have g_0 := (hrowq 0 hlt).c1
        have hyJ := HM.out _ (List.getElem_mem hlt)
        obtain ⟨bj, offj, rfl, hbj, hrow⟩ := (HS.out.below HB_wr).get hyJ
        obtain ⟨e_0, e_1, e_2, e_3⟩ := (hrow _ hyJ).c4
        have HSUC := Lib.hid (pick_take hlt hyJ)
        have hpl := pick_len J q (0)
        have hyi : (q[0] : Int) < (J.length : Int) := by omega
        rw [Nat.mul_one] at g_0
        try rw [Nat.add_zero] at g_0
        clear hrow
        generalize pickJ J (q.take 0) = pre at *
        generalize J[q[0]] = y at *
        generalize q[0] = qk at *
        obtain ⟨y0, y1, y2, y3⟩ := y
        dsimp only at e_0 e_1 e_2 e_3
        go_wp2_with fail
        have y_g := cell_regrown g_0
        refine wp_region_plan (C := fun w' => ∃ p : Regrown, w' = grow (redrawn wr p.d) p.os) (.q 0 (.q 1 (.q 2 (.q 3 (.q 4 (.q 5 (.q 6 (.q 7 (.q 8 (.q 9 (.q 10 (.q 11 (.q 12 (.q 13 (.q 14 (.q 15 (.q 16 (.q 17 (.q 18 (.q 19 (.q 20 (.q 21 (.q 22 (.q 23 (.q 24 (.q 25 (.q 26 (.q 27 (.q 28 (.q 29 (.done))))))))))))))))))))))))))))))) 30 (by kernel_rfl) (by kernel_rfl) (grew_drew _) ?_
        repeat (any_goals (first | (go_big_quiet_skip; refine wpQuiet_nil ?_) | (go_big_quiet_want; go_big_quiet_op; go_big_quiet_on; refine wpQuiet_nil ?_) | ((with_reducible apply q_split); exact rfl; intro q hq; cases q <;> (rw [hq]; (try first | replace hq := bnot_t hq | replace hq := bnot_f hq); (try first | replace hq := of_decide_eq_true hq | replace hq := of_decide_eq_false hq | replace hq := eq_of_beq hq); (try first | replace hq := Int.not_lt.1 hq | replace hq := Int.not_le.1 hq | replace hq := Nat.not_lt.1 hq | replace hq := Nat.not_le.1 hq); try (exfalso; omega))) | (refine plan_q rfl rfl ?_)))
        clear y_g
        all_goals refine plan_done ?_
        all_goals (try simp only [List.drop_succ_cons, List.drop_zero])
        all_goals (try go_wp2_with fail)
        all_goals refine NoPanic.normal ?_
        obtain ⟨wd, hW_wd⟩ : ∃ W, wr.drew = W := ⟨_, rfl⟩
        first | rw [hW_wd] | rw [show ({ heap := wr.heap, tape := wr.tape, drawn := wr.drawn + 1, os := wr.os, output := wr.output } : World) = wd from hW_wd]
        replace HO := Lib.hid HO.out.drew
        replace g_0 := cell_drew g_0
        replace e_0 := cell_drew e_0
        replace e_1 := cell_drew e_1
        replace e_2 := cell_drew e_2
        replace e_3 := cell_drew e_3
        have HB_wd : Below w.heap.size w wr.drew := HB_wr.drew
        rw [hW_wd] at HO g_0 e_0 e_1 e_2 e_3 HB_wd
        clear hW_wd
        have HOX := Lib.hid (HO.out.alloc (.cells #[.int .i64 y0, .int .i64 y1, .int .i64 y2, .int .i64 y3] 44))
        have HSX : Hid (Sl (wd.alloc (.cells #[.int .i64 y0, .int .i64 y1, .int .i64 y2, .int .i64 y3] 44)) 4 cJ (some ⟨wd.heap.size, 0, none⟩) 1 1 [(⟨y0, y1, y2, y3⟩ : Jb)]) := Sl.one (x := (⟨y0, y1, y2, y3⟩ : Jb)) cJ_len (Box.new wd (cJ ⟨y0, y1, y2, y3⟩) 44)
        have hsz : w.heap.size ≤ (wd.alloc (.cells #[.int .i64 y0, .int .i64 y1, .int .i64 y2, .int .i64 y3] 44)).heap.size := by have := HB_wd.size; simp; omega
        go_wp2_with (at_builtin; refine wpList_append_sl rfl _ _ 22 rfl w.heap.size 44 i0 _ 4 32 Try.underlying22 HI.out HZ0.out HZ1.out HZ2.out rfl (by decide) cJ_len cJ_one _ pre rfl HOX.out (some ⟨wd.heap.size, 0, none⟩) 1 1 [(⟨y0, y1, y2, y3⟩ : Jb)] rfl HSX.out (by unfold maxLen; omega) (by omega) hsz ?_)
        rintro v' w6 ho6 hg6 hgr6
        have HB_6 : Below w.heap.size w w6 := (grew1 HB_wd).trans (hg6 _ (Nat.le_refl _))
        have HO6 := Lib.hid (show OwnL w6 w.heap.size 44 4 cJ v' (pickJ J (q.take (0 + 1))) by rw [HSUC.out]; exact ho6)
        clear hg6 hgr6 ho6 HOX HSX hsz HO
        clear e_0 e_1 e_2 e_3 g_0
        go_wp2_with fail
        go_roundw
        case rel => exact ⟨1, hlt, by go_num, HB_6, HO6⟩
        case measure => simp [intOf] <;> omega
      · obtain ⟨j, rfl⟩ : ∃ j, k = j + 1 := ⟨k - 1, by omega⟩
        have hjl : j < q.length := by omega
        have hgt := HPW.out j (j + 1) hjl hlt (Nat.lt_succ_self j)
        obtain ⟨bq, offq, rfl, hbq, hrowq⟩ := (HQ.out.below HB_wr).get hlt
        have g_0 := (hrowq (j + 1) hlt).c1
        have hyJ := HM.out _ (List.getElem_mem hlt)
        obtain ⟨bj, offj, rfl, hbj, hrow⟩ := (HS.out.below HB_wr).get hyJ
        obtain ⟨e_0, e_1, e_2, e_3⟩ := (hrow _ hyJ).c4
        have HSUC := Lib.hid (pick_take hlt hyJ)
        have hpl := pick_len J q ((j + 1))
        have hyi : (q[(j + 1)] : Int) < (J.length : Int) := by omega
        rw [Nat.mul_one] at g_0
        try rw [Nat.add_zero] at g_0
        clear hrow
        have f_0 := (hrowq j hjl).c1
        rw [Nat.mul_one] at f_0
        have hgi : (q[j] : Int) < (q[j + 1] : Int) := by omega
        have hjj : ((j + 1 : Nat) : Int) = (j : Int) + 1 := by omega
        have HRI := Lib.hid hjj
        rw [hjj]
        clear hrowq hgt hjj
        generalize pickJ J (q.take (j + 1)) = pre at *
        generalize J[q[j + 1]] = y at *
        generalize q[j + 1] = qk at *
        generalize q[j] = ql at *
        obtain ⟨y0, y1, y2, y3⟩ := y
        dsimp only at e_0 e_1 e_2 e_3
        have y_f := cell_regrown f_0
        clear f_0
        go_wp2_with fail
        have y_g := cell_regrown g_0
        refine wp_region_plan (C := fun w' => ∃ p : Regrown, w' = grow (redrawn wr p.d) p.os) (.q 0 (.q 1 (.q 2 (.q 3 (.q 4 (.q 5 (.q 6 (.q 7 (.q 8 (.q 9 (.q 10 (.q 11 (.q 12 (.q 13 (.q 14 (.q 15 (.q 16 (.q 17 (.q 18 (.q 19 (.q 20 (.q 21 (.q 22 (.q 23 (.q 24 (.q 25 (.q 26 (.q 27 (.q 28 (.q 29 (.done))))))))))))))))))))))))))))))) 30 (by kernel_rfl) (by kernel_rfl) (grew_drew _) ?_
        repeat (any_goals (first | (go_big_quiet_skip; refine wpQuiet_nil ?_) | (go_big_quiet_want; go_big_quiet_op; go_big_quiet_on; refine wpQuiet_nil ?_) | ((with_reducible apply q_split); exact rfl; intro q hq; cases q <;> (rw [hq]; (try first | replace hq := bnot_t hq | replace hq := bnot_f hq); (try first | replace hq := of_decide_eq_true hq | replace hq := of_decide_eq_false hq | replace hq := eq_of_beq hq); (try first | replace hq := Int.not_lt.1 hq | replace hq := Int.not_le.1 hq | replace hq := Nat.not_lt.1 hq | replace hq := Nat.not_le.1 hq); try (exfalso; omega))) | (refine plan_q rfl rfl ?_)))
        clear y_g
        all_goals refine plan_done ?_
        all_goals (try simp only [List.drop_succ_cons, List.drop_zero])
        all_goals (try go_wp2_with fail)
        all_goals refine NoPanic.normal ?_
        obtain ⟨wd, hW_wd⟩ : ∃ W, wr.drew = W := ⟨_, rfl⟩
        first | rw [hW_wd] | rw [show ({ heap := wr.heap, tape := wr.tape, drawn := wr.drawn + 1, os := wr.os, output := wr.output } : World) = wd from hW_wd]
        replace HO := Lib.hid HO.out.drew
        replace g_0 := cell_drew g_0
        replace e_0 := cell_drew e_0
        replace e_1 := cell_drew e_1
        replace e_2 := cell_drew e_2
        replace e_3 := cell_drew e_3
        have HB_wd : Below w.heap.size w wr.drew := HB_wr.drew
        rw [hW_wd] at HO g_0 e_0 e_1 e_2 e_3 HB_wd
        clear hW_wd
        clear y_f
        have HOX := Lib.hid (HO.out.alloc (.cells #[.int .i64 y0, .int .i64 y1, .int .i64 y2, .int .i64 y3] 44))
        have HSX : Hid (Sl (wd.alloc (.cells #[.int .i64 y0, .int .i64 y1, .int .i64 y2, .int .i64 y3] 44)) 4 cJ (some ⟨wd.heap.size, 0, none⟩) 1 1 [(⟨y0, y1, y2, y3⟩ : Jb)]) := Sl.one (x := (⟨y0, y1, y2, y3⟩ : Jb)) cJ_len (Box.new wd (cJ ⟨y0, y1, y2, y3⟩) 44)
        have hsz : w.heap.size ≤ (wd.alloc (.cells #[.int .i64 y0, .int .i64 y1, .int .i64 y2, .int .i64 y3] 44)).heap.size := by have := HB_wd.size; simp; omega
        go_wp2_with (at_builtin; refine wpList_append_sl rfl _ _ 22 rfl w.heap.size 44 i0 _ 4 32 Try.underlying22 HI.out HZ0.out HZ1.out HZ2.out rfl (by decide) cJ_len cJ_one _ pre rfl HOX.out (some ⟨wd.heap.size, 0, none⟩) 1 1 [(⟨y0, y1, y2, y3⟩ : Jb)] rfl HSX.out (by unfold maxLen; omega) (by omega) hsz ?_)
        rintro v' w6 ho6 hg6 hgr6
        have HB_6 : Below w.heap.size w w6 := (grew1 HB_wd).trans (hg6 _ (Nat.le_refl _))
        have HO6 := Lib.hid (show OwnL w6 w.heap.size 44 4 cJ v' (pickJ J (q.take ((j + 1) + 1))) by rw [HSUC.out]; exact ho6)
        clear hg6 hgr6 ho6 HOX HSX hsz HO
        clear e_0 e_1 e_2 e_3 g_0
        go_wp2_with fail
        go_roundw
        case rel => exact ⟨j + 1 + 1, hlt, by go_num, HB_6, HO6⟩
        case measure => simp [intOf] <;> omega
    · obtain rfl : k = q.length := by omega
      rw [List.take_length] at HO
      go_wp2_with fail
      all_goals try (exfalso; omega)
      go_ret2
      exact ⟨_, rfl, HO.out, HB_wr⟩

set_option maxRecDepth 100000 in
set_option maxHeartbeats 8000000 in
theorem rwith_any (qo : Option Addr) (m capq : Nat) (q : List Nat) (n : Nat) (w : World) (hq : Sl w 1 cN qo m capq q) (hl : q.length ≤ 1000) (hr : q.Pairwise (· < ·)) (hn : n ≤ 1000) :
    Calls Try.prog 30 #[.slice qo m capq, .int .i64 (n : Int)] w (NatE w (srtN (q ++ [n]))) := by
  obtain rfl := hq.len
  have hcapq := hq.max
  have hleq := hq.le
  unfold maxLen at hcapq
  have HQ := Lib.hid hq
  have HPW := Lib.hid (List.pairwise_iff_getElem.1 hr)
  have HSR := Lib.hid (fun k h1 h2 => @ins_srt q n k hr h1 h2)
  have HLN := Lib.hid (show (srtN (q ++ [n])).length = q.length + 1 by rw [srtN_len]; simp)
  have HB_w : Below w.heap.size w w := Below.refl _ _
  obtain ⟨i2, hi, hz0, hz1, hz2⟩ := info_parts info_int
  have HI2 := Lib.hid hi
  have HZ20 := Lib.hid hz0
  have HZ21 := Lib.hid hz1
  have HZ22 := Lib.hid hz2
  clear hi hz0 hz1 hz2 hq hr
  go_enter Try.func30, Try.ntmps30
  have HO0 := Lib.hid (show OwnL (w.alloc (.cells #[] 3)) w.heap.size 3 1 cN (.slice (some ⟨w.heap.size, 0, none⟩) 0 0) ([] : List Nat) from OwnL.made (Nat.le_refl _))
  go_wp2_with (at_builtin; refine wpList_append_sl rfl _ _ 30 rfl w.heap.size 3 i2 _ 1 8 Try.underlying30 HI2.out HZ20.out HZ21.out HZ22.out rfl (by decide) cN_len cN_one _ [] rfl HO0.out qo q.length capq q rfl (HQ.out.below (grew1 (Below.refl _ _))) (by unfold maxLen; simp; omega) (by simp; omega) (by simp) ?_)
  rintro v1 w1 ho hg hgr
  have HB_w1 : Below w.heap.size w w1 := (grew1 HB_w).trans (hg _ HB_w.size)
  have HO1 := Lib.hid (show OwnL w1 w.heap.size 3 1 cN v1 q from ho)
  clear ho hg hgr HO0
  have HOX := Lib.hid (HO1.out.alloc (.cells #[.int .i64 (n : Int)] 3))
  have HSX : Hid (Sl (w1.alloc (.cells #[.int .i64 (n : Int)] 3)) 1 cN (some ⟨w1.heap.size, 0, none⟩) 1 1 [n]) := Sl.one (x := n) cN_len (Box.new w1 (cN n) 3)
  have hsz : w.heap.size ≤ (w1.alloc (.cells #[.int .i64 (n : Int)] 3)).heap.size := by have := HB_w1.size; simp; omega
  go_wp2_with (at_builtin; refine wpList_append_sl rfl _ _ 30 rfl w.heap.size 3 i2 _ 1 8 Try.underlying30 HI2.out HZ20.out HZ21.out HZ22.out rfl (by decide) cN_len cN_one _ q rfl HOX.out (some ⟨w1.heap.size, 0, none⟩) 1 1 [n] rfl HSX.out (by unfold maxLen; omega) (by omega) hsz ?_)
  rintro v6 w6 ho6 hg6 hgr6
  have HB_w6 : Below w.heap.size w w6 := (grew1 HB_w1).trans (hg6 _ (Nat.le_refl _))
  obtain ⟨g, cg, rfl, hgb, hgl⟩ := OwnL.form' ho6 (by simp)
  have hlen : (q ++ [n]).length = q.length + 1 := by simp
  have HO6 := Lib.hid (show OwnL w6 w.heap.size 3 1 cN (.slice (some ⟨g, 0, none⟩) (q.length + 1) cg) (ins q n q.length) by rw [ins_all, ← hlen]; exact ho6)
  rw [hlen]
  have HCG := Lib.hid HO6.out.slG
  have hcg : q.length + 1 ≤ cg ∧ cg ≤ 9223372036854775807 := by
    have h1 := (HCG.out cN_len).le
    have h2 := (HCG.out cN_len).max
    have h3 := ins_len (n := n) (Nat.le_refl q.length)
    unfold maxLen at h2
    omega
  clear hg6 hgr6 ho6 HOX HSX hsz HO1 hlen hgl HCG
  obtain ⟨hcg1, hcg2⟩ := hcg
  go_wp2_with fail
  go_loopw [6] (fun i wr => ∃ k : Nat, k ≤ q.length ∧ i = .int .i64 k ∧ Below w.heap.size w wr ∧ Hid (OwnL wr w.heap.size 3 1 cN (.slice (some ⟨g, 0, none⟩) (q.length + 1) cg) (ins q n k)) ∧ Hid (∀ x ∈ q.drop k, n ≤ x)) (fun i _ => (intOf i).toNat)
  case atStart => exact ⟨q.length, Nat.le_refl _, by go_num, HB_w6, HO6, fun x hx => by rw [List.drop_length] at hx; cases hx⟩
  case round =>
    clear HO6 HB_w6
    obtain ⟨k, hk, rfl, HB_wr, HO, HD⟩ := hrel
    rcases Nat.eq_zero_or_pos k with h0 | h0
    · subst h0
      have HE := Lib.hid (HSR.out 0 (fun x hx => by cases hx) HD.out)
      rw [HE.out] at HO
      clear HE HD
      go_wp2_with fail
      refine wp_region_plan (C := fun w' => ∃ p : Regrown, w' = grow (redrawn wr p.d) p.os) (.q 0 (.q 1 (.q 2 (.q 3 (.q 4 (.q 5 (.q 6 (.q 7 (.q 8 (.q 9 (.q 10 (.q 11 (.q 12 (.q 13 (.done))))))))))))))) 14 (by kernel_rfl) (by kernel_rfl) (grew_drew _) ?_
      repeat (any_goals (first | (go_big_quiet_skip; refine wpQuiet_nil ?_) | (go_big_quiet_want; go_big_quiet_op; go_big_quiet_on; refine wpQuiet_nil ?_) | ((with_reducible apply q_split); exact rfl; intro q hq; cases q <;> (rw [hq]; (try first | replace hq := bnot_t hq | replace hq := bnot_f hq); (try first | replace hq := of_decide_eq_true hq | replace hq := of_decide_eq_false hq | replace hq := eq_of_beq hq); (try first | replace hq := Int.not_lt.1 hq | replace hq := Int.not_le.1 hq | replace hq := Nat.not_lt.1 hq | replace hq := Nat.not_le.1 hq); try (exfalso; omega))) | (refine plan_q rfl rfl ?_)))
      all_goals refine plan_done ?_
      all_goals (try simp only [List.drop_succ_cons, List.drop_zero])
      all_goals (try go_wp2_with fail)
      all_goals refine NoPanic.normal ?_
      all_goals (try go_wp2_with fail)
      go_ret
      exact ⟨.slice (some ⟨g, 0, none⟩) (q.length + 1) cg, rfl, HO.out.drew, HB_wr.drew⟩
    · obtain ⟨j, rfl⟩ : ∃ j, k = j + 1 := ⟨k - 1, by omega⟩
      have hjl : j < q.length := by omega
      have hln := ins_len (n := n) hk
      have hq1 := ins_at (n := n) hk
      have hq2 := ins_bef (n := n) hjl
      have g_0 := HO.out.cellG cN_len (j := j + 1) (i := 0) hq1 rfl
      have g_1 := HO.out.cellG cN_len (j := j) (i := 0) hq2 rfl
      simp only [Nat.mul_one, Nat.add_zero] at g_0 g_1
      have HSW := Lib.hid (ins_swap (n := n) hjl)
      have HPJ := Lib.hid (fun i (hi : i < q.length) h => HPW.out i j hi hjl h)
      have hdc : q.drop j = q[j] :: q.drop (j + 1) := List.drop_eq_getElem_cons hjl
      have HSJ := Lib.hid (show q[j] ≤ n → ins q n (j + 1) = srtN (q ++ [n]) from fun h => HSR.out (j + 1) (fun x hx => by
        obtain ⟨i, hi, rfl⟩ := List.mem_take_iff_getElem.1 hx
        by_cases e : i = j
        · subst e; exact h
        · have := HPJ.out i (by omega) (by omega); omega) HD.out)
      have HDJ := Lib.hid (show n ≤ q[j] → ∀ x ∈ q.drop j, n ≤ x from fun h x hx => by
        rw [hdc] at hx
        rcases List.mem_cons.1 hx with rfl | hx
        · exact h
        · exact HD.out x hx)
      have hjj : ((j + 1 : Nat) : Int) = (j : Int) + 1 := by omega
      have HRI := Lib.hid hjj
      rw [hjj]
      clear hjj hdc HPJ
      generalize q[j] = y at *
      have HQ1 := Lib.hid hq1
      have HQ2 := Lib.hid hq2
      clear hq1 hq2
      go_wp2_with fail
      have y_g0 := cell_regrown g_0
      have y_g1 := cell_regrown g_1
      clear g_0 g_1
      by_cases hny : (n : Int) < (y : Int)
      · have HD2 := Lib.hid (HDJ.out (by omega))
        clear HSJ HDJ HD
        refine wp_region_plan (C := fun w' => ∃ p : Regrown, w' = grow (redrawn wr p.d) p.os) (.q 0 (.q 1 (.q 2 (.q 3 (.q 4 (.q 5 (.q 6 (.q 7 (.q 8 (.q 9 (.q 10 (.q 11 (.q 12 (.q 13 (.done))))))))))))))) 14 (by kernel_rfl) (by kernel_rfl) (grew_drew _) ?_
        repeat (any_goals (first | (go_big_quiet_skip; refine wpQuiet_nil ?_) | (go_big_quiet_want; go_big_quiet_op; go_big_quiet_on; refine wpQuiet_nil ?_) | ((with_reducible apply q_split); exact rfl; intro q hq; cases q <;> (rw [hq]; (try first | replace hq := bnot_t hq | replace hq := bnot_f hq); (try first | replace hq := of_decide_eq_true hq | replace hq := of_decide_eq_false hq | replace hq := eq_of_beq hq); (try first | replace hq := Int.not_lt.1 hq | replace hq := Int.not_le.1 hq | replace hq := Nat.not_lt.1 hq | replace hq := Nat.not_le.1 hq); try (exfalso; omega))) | (refine plan_q rfl rfl ?_)))
        clear y_g0 y_g1
        all_goals refine plan_done ?_
        all_goals (try simp only [List.drop_succ_cons, List.drop_zero])
        all_goals (try go_wp2_with fail)
        all_goals refine NoPanic.normal ?_
        obtain ⟨wd, hW_wd⟩ : ∃ W, wr.drew = W := ⟨_, rfl⟩
        first | rw [hW_wd] | rw [show ({ heap := wr.heap, tape := wr.tape, drawn := wr.drawn + 1, os := wr.os, output := wr.output } : World) = wd from hW_wd]
        have HB_wd : Below w.heap.size w wd := hW_wd ▸ HB_wr.drew
        have HOD := Lib.hid (show OwnL wd w.heap.size 3 1 cN (.slice (some ⟨g, 0, none⟩) (q.length + 1) cg) (ins q n (j + 1)) from hW_wd ▸ HO.out.drew)
        clear hW_wd HB_wr HO
        go_wp2_with fail
        obtain ⟨V, hV⟩ : ∃ V, wd.drew = V := ⟨_, rfl⟩
        have HB_V : Below w.heap.size w V := hV ▸ HB_wd.drew
        have HOV := Lib.hid (show OwnL V w.heap.size 3 1 cN (.slice (some ⟨g, 0, none⟩) (q.length + 1) cg) (ins q n (j + 1)) from hV ▸ HOD.out.drew)
        have g_0 := HOV.out.cellG cN_len (j := j + 1) (i := 0) HQ1.out rfl
        have g_1 := HOV.out.cellG cN_len (j := j) (i := 0) HQ2.out rfl
        have g_f := HOV.out.frozenG
        have hs1 := OwnL.setG cN_len HOV.out (j := j + 1) (by omega) (i := 0) (by decide) (u := .int .i64 (y : Int)) (a := y) rfl
        have hs2 := OwnL.setG cN_len hs1.1 (j := j) (by rw [List.length_set]; omega) (i := 0) (by decide) (u := .int .i64 (n : Int)) (a := n) rfl
        simp only [Nat.mul_one, Nat.add_zero] at g_0 g_1 hs1 hs2
        have hg1 := hs1.1.cellG cN_len (j := j) (i := 0) (a := y) (by rw [List.getElem?_set_ne (by omega)]; exact HQ2.out) rfl
        have hf1 := hs1.1.frozenG
        simp only [Nat.mul_one, Nat.add_zero] at hg1
        have HS1 := Lib.hid hs1
        have HS2 := Lib.hid hs2
        clear hs1 hs2
        obtain ⟨V1, hV1⟩ : ∃ V1, V.setCell ⟨g, j + 1, none⟩ (.int .i64 (y : Int)) = V1 := ⟨_, rfl⟩
        rw [hV1] at HS1 HS2 hg1 hf1
        obtain ⟨V2, hV2⟩ : ∃ V2, V1.setCell ⟨g, j, none⟩ (.int .i64 (n : Int)) = V2 := ⟨_, rfl⟩
        rw [hV2] at HS2
        have HO2 := Lib.hid (show OwnL V2 w.heap.size 3 1 cN (.slice (some ⟨g, 0, none⟩) (q.length + 1) cg) (ins q n j) by rw [← HSW.out]; exact HS2.out.1)
        have HB_V2 : Below w.heap.size w V2 := by
          rw [← hV2, ← hV1]
          exact (HB_V.setCell (p := ⟨g, j + 1, none⟩) hgb _).setCell (p := ⟨g, j, none⟩) hgb _
        have y_n : Nonempty (Wc (fun W => True)) := ⟨⟨V, trivial⟩⟩
        clear HOV HOD HS1 HS2 HSW HB_V HQ1 HQ2
        refine wp_region_plan (C := fun w' => ∃ p : Wc (fun W => True), w' = p.w) (.q 0 (.q 1 (.q 2 (.q 3 (.q 4 (.q 5 (.q 6 (.q 7 (.q 8 (.q 10 (.q 11 (.q 12 (.two 9 (.e 13 (.q 14 (.e 15 (.q 16 (.e 17 (.done)))))) 13 (.e 9 (.q 14 (.e 15 (.q 16 (.e 17 (.done))))))))))))))))))) 18 (by kernel_rfl) (by kernel_rfl) ⟨⟨_, ?_⟩, rfl⟩ ?_
        · trivial
        repeat (any_goals (first | (go_big_quiet_skip; refine wpQuiet_nil ?_) | (go_big_quiet_want; go_big_quiet_op; go_big_quiet_on; refine wpQuiet_nil ?_) | ((with_reducible apply q_split); exact rfl; intro q hq; cases q <;> (rw [hq]; (try first | replace hq := bnot_t hq | replace hq := bnot_f hq); (try first | replace hq := of_decide_eq_true hq | replace hq := of_decide_eq_false hq | replace hq := eq_of_beq hq); (try first | replace hq := Int.not_lt.1 hq | replace hq := Int.not_le.1 hq | replace hq := Nat.not_lt.1 hq | replace hq := Nat.not_le.1 hq); try (exfalso; omega))) | (refine plan_q rfl rfl ?_)))
        rw [show ({ heap := wd.heap, tape := wd.tape, drawn := wd.drawn + 1, os := wd.os, output := wd.output } : World) = V from hV]
        refine plan_two rfl rfl ?_ ?_
        all_goals
          go_wp2_with fail
          refine MixPost.intro ⟨⟨_, trivial⟩, rfl⟩ ?_
          repeat (any_goals (first | (go_big_quiet_skip; refine wpQuiet_nil ?_) | (go_big_quiet_want; go_big_quiet_op; go_big_quiet_on; refine wpQuiet_nil ?_) | ((with_reducible apply q_split); exact rfl; intro q hq; cases q <;> (rw [hq]; (try first | replace hq := bnot_t hq | replace hq := bnot_f hq); (try first | replace hq := of_decide_eq_true hq | replace hq := of_decide_eq_false hq | replace hq := eq_of_beq hq); (try first | replace hq := Int.not_lt.1 hq | replace hq := Int.not_le.1 hq | replace hq := Nat.not_lt.1 hq | replace hq := Nat.not_le.1 hq); try (exfalso; omega))) | (refine plan_q rfl rfl ?_)))
          refine plan_e rfl ?_
          go_wp2_with fail
          refine MixPost.intro ⟨⟨_, trivial⟩, rfl⟩ ?_
          repeat (any_goals (first | (go_big_quiet_skip; refine wpQuiet_nil ?_) | (go_big_quiet_want; go_big_quiet_op; go_big_quiet_on; refine wpQuiet_nil ?_) | ((with_reducible apply q_split); exact rfl; intro q hq; cases q <;> (rw [hq]; (try first | replace hq := bnot_t hq | replace hq := bnot_f hq); (try first | replace hq := of_decide_eq_true hq | replace hq := of_decide_eq_false hq | replace hq := eq_of_beq hq); (try first | replace hq := Int.not_lt.1 hq | replace hq := Int.not_le.1 hq | replace hq := Nat.not_lt.1 hq | replace hq := Nat.not_le.1 hq); try (exfalso; omega))) | (refine plan_q rfl rfl ?_)))
          refine plan_e rfl ?_
          go_wp2_with fail
          refine MixPost.intro ⟨⟨_, trivial⟩, rfl⟩ ?_
          repeat (any_goals (first | (go_big_quiet_skip; refine wpQuiet_nil ?_) | (go_big_quiet_want; go_big_quiet_op; go_big_quiet_on; refine wpQuiet_nil ?_) | ((with_reducible apply q_split); exact rfl; intro q hq; cases q <;> (rw [hq]; (try first | replace hq := bnot_t hq | replace hq := bnot_f hq); (try first | replace hq := of_decide_eq_true hq | replace hq := of_decide_eq_false hq | replace hq := eq_of_beq hq); (try first | replace hq := Int.not_lt.1 hq | replace hq := Int.not_le.1 hq | replace hq := Nat.not_lt.1 hq | replace hq := Nat.not_le.1 hq); try (exfalso; omega))) | (refine plan_q rfl rfl ?_)))
          refine plan_e rfl ?_
          go_wp2_with fail
          refine MixPost.intro ⟨⟨_, trivial⟩, rfl⟩ ?_
          clear y_n g_0 g_1 g_f hg1 hf1 hV hV1 hV2
          refine plan_done ?_
          try simp only [List.drop_succ_cons, List.drop_zero]
          go_wp2_with fail
          refine NoPanic.normal ?_
          go_wp2_with fail
          go_roundw
          case rel => exact ⟨j, by omega, by go_num, HB_V2, HO2, HD2⟩
          case measure => simp [intOf] <;> omega
      · have HE := Lib.hid (HSJ.out (by omega))
        replace hny := Int.not_lt.1 hny
        rw [HE.out] at HO
        clear HSJ HDJ HD HE HSW HQ1 HQ2
        refine wp_region_plan (C := fun w' => ∃ p : Regrown, w' = grow (redrawn wr p.d) p.os) (.q 0 (.q 1 (.q 2 (.q 3 (.q 4 (.q 5 (.q 6 (.q 7 (.q 8 (.q 9 (.q 10 (.q 11 (.q 12 (.q 13 (.done))))))))))))))) 14 (by kernel_rfl) (by kernel_rfl) (grew_drew _) ?_
        repeat (any_goals (first | (go_big_quiet_skip; refine wpQuiet_nil ?_) | (go_big_quiet_want; go_big_quiet_op; go_big_quiet_on; refine wpQuiet_nil ?_) | ((with_reducible apply q_split); exact rfl; intro q hq; cases q <;> (rw [hq]; (try first | replace hq := bnot_t hq | replace hq := bnot_f hq); (try first | replace hq := of_decide_eq_true hq | replace hq := of_decide_eq_false hq | replace hq := eq_of_beq hq); (try first | replace hq := Int.not_lt.1 hq | replace hq := Int.not_le.1 hq | replace hq := Nat.not_lt.1 hq | replace hq := Nat.not_le.1 hq); try (exfalso; omega))) | (refine plan_q rfl rfl ?_)))
        clear y_g0 y_g1
        all_goals refine plan_done ?_
        all_goals (try simp only [List.drop_succ_cons, List.drop_zero])
        all_goals (try go_wp2_with fail)
        all_goals refine NoPanic.normal ?_
        all_goals (try go_wp2_with fail)
        go_ret
        exact ⟨.slice (some ⟨g, 0, none⟩) (q.length + 1) cg, rfl, HO.out.drew, HB_wr.drew⟩
end Go.Proofs.Ytheioedggjbphaa
