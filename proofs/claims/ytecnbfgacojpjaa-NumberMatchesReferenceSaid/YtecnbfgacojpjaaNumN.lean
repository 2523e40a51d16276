/-
  The walk of 'NumberApart'.
-/
import Derived.Test.YtecnbfgacojpjaaNumM
namespace Go.Proofs.Ytecnbfgacojpjaa
open Go.RowKit Nb Sk Go.Sort

/-- the rows of a station and a kind -/
def isOwn (st kd : Int) (u : Us) : Bool := decide (u.nm.st = st ∧ u.nm.kd = kd)
def ownOf (l : List Us) (st kd : Int) : List Us := l.filter (isOwn st kd)

theorem own_rows {l : List Us} (h : RowsOk l) (st kd : Int) : RowsOk (ownOf l st kd) :=
  ⟨Nat.le_trans (List.length_filter_le _ _) h.len, fun u hu => h.ok u ((List.mem_filter.1 hu).1), h.mono.filter _, h.disj.filter _⟩

theorem own_last (st kd : Int) (l : List Us) : lastNu (ownOf l st kd) st kd = lastNu l st kd := by
  have key : ∀ (l : List Us) (n : Int), (l.filter (isOwn st kd)).foldl (fun n u => if u.nm.st = st ∧ u.nm.kd = kd then u.nm.nu else n) n = l.foldl (fun n u => if u.nm.st = st ∧ u.nm.kd = kd then u.nm.nu else n) n := by
    intro l
    induction l with
    | nil => intro n; rfl
    | cons u l ih =>
      intro n
      by_cases h : u.nm.st = st ∧ u.nm.kd = kd
      · rw [List.filter_cons_of_pos (by simp [isOwn, h]), List.foldl_cons, List.foldl_cons, ih]
      · rw [List.filter_cons_of_neg (by simp [isOwn]; intro a; exact fun b => h ⟨a, b⟩), List.foldl_cons, if_neg h, ih]
  exact key l 0

theorem own_used (l : List Us) (st kd x t : Int) : used (ownOf l st kd) ⟨st, kd, x⟩ t = used l ⟨st, kd, x⟩ t := by
  unfold used ownOf
  rw [List.any_filter]
  congr 1
  funext u
  by_cases h : u.nm = ⟨st, kd, x⟩
  · simp [h, isOwn]
  · simp [h]

theorem own_frees (l : List Us) (st kd now : Int) : frees (ownOf l st kd) st kd now = frees l st kd now := by
  unfold frees
  rw [own_last]
  refine List.filter_congr fun n hn => ?_
  obtain ⟨x, _, rfl⟩ := List.mem_map.1 hn
  rw [own_used]

theorem own_asked {l : List Us} {st kd now : Int} (h : RowsOk l) (h13 : asked l st kd now ≠ 13) : asked (ownOf l st kd) st kd now = asked l st kd now := by
  have hr := rows_iff.2 h
  have hr' := rows_iff.2 (own_rows h st kd)
  by_cases h1 : okN ⟨st, kd, 1⟩ = true
  · by_cases h2 : tm now = true
    · rw [asked_rest hr h1 h2] at h13
      rw [asked_rest hr h1 h2, asked_rest hr' h1 h2]
      have hall : ∀ u ∈ l, ¬ now < u.fr := by
        intro u hu
        cases hl : l.getLast? with
        | none => rw [List.getLast?_eq_none_iff] at hl; subst hl; cases hu
        | some v =>
          rw [hl] at h13
          dsimp only at h13
          have hv : ¬ now < v.fr := by intro h; rw [if_pos h] at h13; exact h13 rfl
          have hne : l ≠ [] := by rintro rfl; cases hu
          rw [List.getLast?_eq_some_getLast hne] at hl
          obtain ⟨i, hi, rfl⟩ := List.getElem_of_mem hu
          have hv2 : v = l[l.length - 1]'(by have := List.length_pos_iff.2 hne; omega) := by
            rw [← Option.some.inj hl, List.getLast_eq_getElem]
          rcases Nat.lt_or_ge i (l.length - 1) with h3 | h3
          · have := List.pairwise_iff_getElem.1 h.mono i (l.length - 1) hi (by omega) h3
            rw [hv2] at hv
            omega
          · have : i = l.length - 1 := by omega
            subst this
            rw [hv2] at hv
            exact hv
      have e : ∀ (m : List Us), (∀ u ∈ m, ¬ now < u.fr) → (match m.getLast? with | some u => if now < u.fr then (13 : Int) else 0 | none => 0) = 0 := by
        intro m hm
        cases hl : m.getLast? with
        | none => rfl
        | some v => dsimp only; rw [if_neg (hm v (List.mem_of_getLast? hl))]
      exact (e _ (fun u hu => hall u (List.mem_filter.1 hu).1)).trans (e l hall).symm
    · have h2' : tm now = false := by simpa using h2
      rw [asked_one (.inr (.inr h2')), asked_one (.inr (.inr h2'))]
  · have h1' : okN ⟨st, kd, 1⟩ = false := by simpa using h1
    rw [asked_one (.inr (.inl h1')), asked_one (.inr (.inl h1'))]

theorem own_next {l : List Us} {st kd now : Int} (h : RowsOk l) (h13 : asked l st kd now ≠ 13) : next (ownOf l st kd) st kd now = next l st kd now ∧ room (ownOf l st kd) st kd now = room l st kd now := by
  unfold next room
  rw [own_asked h h13, own_frees]
  exact ⟨rfl, rfl⟩

theorem own_snoc (l : List Us) (u : Us) (st kd : Int) : ownOf (l ++ [u]) st kd = if u.nm.st = st ∧ u.nm.kd = kd then ownOf l st kd ++ [u] else ownOf l st kd := by
  unfold ownOf
  rw [List.filter_append]
  by_cases h : u.nm.st = st ∧ u.nm.kd = kd
  · rw [if_pos h, List.filter_cons_of_pos (by simp [isOwn, h])]; rfl
  · rw [if_neg h, List.filter_cons_of_neg (by simp [isOwn]; intro a; exact fun b => h ⟨a, b⟩)]; simp
theorem next_err13 {l : List Us} {st kd now : Int} (h : asked l st kd now = 13) : next l st kd now = (zeroN, 13) ∧ room l st kd now = (0, 13) := by
  have h0 : asked l st kd now ≠ 0 := by rw [h]; simp
  exact ⟨by rw [next_err h0, h], by rw [room_err h0, h]⟩

theorem next_no13 {l : List Us} {st kd now : Int} (h : asked l st kd now ≠ 13) : (next l st kd now).2 ≠ 13 := by
  by_cases h0 : asked l st kd now = 0
  · cases hf : frees l st kd now with
    | nil => rw [next_none h0 hf]; simp
    | cons x r => rw [next_some h0 hf]; simp
  · rw [next_err h0]; exact h

set_option maxRecDepth 100000 in
set_option maxHeartbeats 4000000 in
theorem apart_walk (ao : Option Addr) (m cap : Nat) (l : List Us) (st kd now : Int) (w : World) (hs : Sl w 5 cU ao m cap l) :
    Calls Try.prog 7 #[.slice ao m cap, .int .i64 st, .int .i64 kd, .int .i64 now] w (Ret w (.bool true)) := by
  obtain rfl := hs.len
  have hcap := hs.max
  have hle := hs.le
  unfold maxLen at hcap
  have HSL := Lib.hid hs
  clear hs
  have HS0 := HSL
  have HB_w : Below w.heap.size w w := Below.refl _ _
  obtain ⟨i0, hi, hz0, hz1, hz2⟩ := info_parts info_used
  have HI := Lib.hid hi
  have HZ0 := Lib.hid hz0
  have HZ1 := Lib.hid hz1
  have HZ2 := Lib.hid hz2
  clear hi hz0 hz1 hz2
  go_enter Try.func7, Try.ntmps7
  go_wp2_with fail
  refine (head_any _).mono ?_
  rintro e wa ⟨rfl, hb_wa⟩
  have HB_wa : Below w.heap.size w wa := by first | exact after0 HB_w hb_wa | exact after1 HB_w hb_wa | exact after2 HB_w hb_wa | exact after3 HB_w hb_wa | exact after4 HB_w hb_wa | exact after5 HB_w hb_wa
  replace HSL := Lib.hid (show Sl wa _ _ _ _ _ _ by first | exact HSL.out.below hb_wa | exact (HSL.out.below (grew1 (Below.refl _ _))).below hb_wa | exact (HSL.out.below (grew2 (Below.refl _ _))).below hb_wa | exact (HSL.out.below (grew3 (Below.refl _ _))).below hb_wa)
  go_wp2_with fail
  refine (rows_any _ _ _ l _ (by first | exact HSL.out | exact HSL.out.below (grew1 (Below.refl _ _)) | exact HSL.out.below (grew2 (Below.refl _ _)) | exact HSL.out.below (grew3 (Below.refl _ _)))).mono ?_
  rintro e wb ⟨rfl, hb_wb⟩
  have HB_wb : Below w.heap.size w wb := by first | exact after0 HB_wa hb_wb | exact after1 HB_wa hb_wb | exact after2 HB_wa hb_wb | exact after3 HB_wa hb_wb | exact after4 HB_wa hb_wb | exact after5 HB_wa hb_wb
  replace HSL := Lib.hid (show Sl wb _ _ _ _ _ _ by first | exact HSL.out.below hb_wb | exact (HSL.out.below (grew1 (Below.refl _ _))).below hb_wb | exact (HSL.out.below (grew2 (Below.refl _ _))).below hb_wb | exact (HSL.out.below (grew3 (Below.refl _ _))).below hb_wb)
  by_cases hr : rows l = false
  · rw [hr]
    go_wp2_with fail
    go_ret
    exact ⟨rfl, HB_wb⟩
  have hr' : rows l = true := by simpa using hr
  rw [hr']
  have HRO := Lib.hid (rows_iff.1 hr')
  clear hr hr'
  go_wp2_with fail
  go_loopw [10, 11] (fun v i wr => ∃ k : Nat, k ≤ l.length ∧ i = .int .i64 k ∧ Below w.heap.size w wr ∧ Hid (wr.ownsRow w.heap.size 43 5 v (ownOf (l.take k) st kd).length ((ownOf (l.take k) st kd).flatMap cU))) (fun v i wr => l.length - (intOf i).toNat)
  case atStart => exact ⟨0, by omega, rfl, HB_wb, World.ownsRow_nil _ _ _ _⟩
  case round =>
    obtain ⟨k, hk, rfl, HB_wr, HOW⟩ := hrel
    have HSLr := Lib.hid (HS0.out.below HB_wr)
    by_cases hkl : k < l.length
    · have HT := Lib.hid (show ownOf (l.take (k + 1)) st kd = if l[k].nm.st = st ∧ l[k].nm.kd = kd then ownOf (l.take k) st kd ++ [l[k]] else ownOf (l.take k) st kd by rw [List.take_succ_eq_append_getElem hkl, own_snoc])
      have HN := Lib.hid (show (ownOf (l.take k) st kd).length ≤ 200 by
        have h1 := List.length_filter_le (isOwn st kd) (l.take k)
        have h2 := HRO.out.len
        have h3 : (ownOf (l.take k) st kd).length ≤ (l.take k).length := h1
        rw [List.length_take] at h3
        omega)
      obtain ⟨xs, hxs⟩ : ∃ xs, ownOf (l.take k) st kd = xs := ⟨_, rfl⟩
      rw [hxs] at HT HN HOW
      clear hxs
      obtain ⟨bb, off, rfl, hbb, hrow⟩ := HSLr.out.get hkl
      obtain ⟨e_0, e_1, e_2, e_3, e_4⟩ := (hrow k hkl).c5
      clear hrow
      generalize l[k] = u at *
      obtain ⟨⟨a, b, c⟩, f, g⟩ := u
      dsimp only at e_0 e_1 e_2 e_3 e_4 HT
      by_cases c1 : a = st
      · by_cases c2 : b = kd
        · subst c1 c2
          have HT2 := Lib.hid (HT.out.trans (if_pos ⟨rfl, rfl⟩))
          clear HT
          have hi := HI.out
          have hz0 := HZ0.out
          have hz1 := HZ1.out
          have hz2 := HZ2.out
          have hn := HN.out
          have ho := HOW.out.alloc (.cells #[.int .i64 a, .int .i64 b, .int .i64 c, .int .i64 f, .int .i64 g] 43)
          have hcells := cells_new wr (cU ⟨⟨a, b, c⟩, f, g⟩) 43
          have HB4 : Below w.heap.size w (wr.alloc (.cells #[.int .i64 a, .int .i64 b, .int .i64 c, .int .i64 f, .int .i64 g] 43)) := grew1 HB_wr
          have hS4 := HB4.size
          go_wp2_with (at_builtin; refine wpList_append_own _ rfl _ _ 32 rfl w.heap.size 43 i0 _ 5 40 Try.underlying32 hi hz0 hz1 hz2 rfl (by decide) _ xs.length (xs.flatMap cU) rfl ho ⟨wr.heap.size, 0, none⟩ 1 1 (cU ⟨⟨a, b, c⟩, f, g⟩) rfl rfl hcells (by intro u hu; simp at hu; rcases hu with rfl | rfl | rfl | rfl | rfl <;> rfl) (by unfold maxLen; omega) (by omega) hS4 ?_)
          rintro v' w5 ho5 hg5 _
          have HB5 : Below w.heap.size w w5 := HB4.trans (below_grown ho (Nat.le_refl _) hS4 hg5)
          clear hi hz0 hz1 hz2 e_0 e_1 e_2 e_3 e_4 hcells
          go_wp2_with fail
          go_roundw
          case rel => exact ⟨k + 1, by omega, by go_num, HB5, (by show World.ownsRow _ _ _ _ _ _ _; rw [HT2.out]; simpa [cU] using ho5)⟩
          case measure => simp [intOf]; omega
        · have c2' : (b == kd) = false := beq_eq_false_iff_ne.2 c2
          subst c1
          have HT2 := Lib.hid (HT.out.trans (if_neg (fun h => c2 h.2)))
          clear HT
          go_wp2_with fail
          go_roundw
          case rel => exact ⟨k + 1, by omega, by go_num, HB_wr, (by show World.ownsRow _ _ _ _ _ _ _; rw [HT2.out]; exact HOW.out)⟩
          case measure => simp [intOf]; omega
      · have c1' : (a == st) = false := beq_eq_false_iff_ne.2 c1
        have HT2 := Lib.hid (HT.out.trans (if_neg (fun h => c1 h.1)))
        clear HT
        go_wp2_with fail
        go_roundw
        case rel => exact ⟨k + 1, by omega, by go_num, HB_wr, (by show World.ownsRow _ _ _ _ _ _ _; rw [HT2.out]; exact HOW.out)⟩
        case measure => simp [intOf]; omega
    · have h1 : l.take k = l := List.take_of_length_le (by omega)
      rw [h1] at HOW
      obtain ⟨ao', cap', rfl, hsl, _⟩ := Sl.of_owns (l := ownOf l st kd) cU_len HOW.out rfl
      have HSO := Lib.hid hsl
      clear hsl HOW HSL
      go_wp2_with fail
      refine (next_any _ _ _ l _ _ _ _ (by first | exact HSLr.out | exact HSLr.out.below (grew1 (Below.refl _ _)) | exact HSLr.out.below (grew2 (Below.refl _ _)) | exact HSLr.out.below (grew3 (Below.refl _ _)))).mono ?_
      rintro e wc ⟨rfl, hb_wc⟩
      have HB_wc : Below w.heap.size w wc := by first | exact after0 HB_wr hb_wc | exact after1 HB_wr hb_wc | exact after2 HB_wr hb_wc | exact after3 HB_wr hb_wc | exact after4 HB_wr hb_wc | exact after5 HB_wr hb_wc
      replace HSLr := Lib.hid (show Sl wc _ _ _ _ _ _ by first | exact HSLr.out.below hb_wc | exact (HSLr.out.below (grew1 (Below.refl _ _))).below hb_wc | exact (HSLr.out.below (grew2 (Below.refl _ _))).below hb_wc | exact (HSLr.out.below (grew3 (Below.refl _ _))).below hb_wc)
      replace HSO := Lib.hid (show Sl wc _ _ _ _ _ _ by first | exact HSO.out.below hb_wc | exact (HSO.out.below (grew1 (Below.refl _ _))).below hb_wc | exact (HSO.out.below (grew2 (Below.refl _ _))).below hb_wc | exact (HSO.out.below (grew3 (Below.refl _ _))).below hb_wc)
      have HRW := Lib.hid (rows_iff.2 (own_rows HRO.out st kd))
      by_cases h13 : asked l st kd now = 13
      · obtain ⟨hn, hrm⟩ := next_err13 h13
        rw [hn]
        dsimp only [zeroN]
        go_wp2_with fail
        refine (next_any _ _ _ (ownOf l st kd) _ _ _ _ (by first | exact HSO.out | exact HSO.out.below (grew1 (Below.refl _ _)) | exact HSO.out.below (grew2 (Below.refl _ _)) | exact HSO.out.below (grew3 (Below.refl _ _)))).mono ?_
        rintro e wd ⟨rfl, hb_wd⟩
        have HB_wd : Below w.heap.size w wd := by first | exact after0 HB_wc hb_wd | exact after1 HB_wc hb_wd | exact after2 HB_wc hb_wd | exact after3 HB_wc hb_wd | exact after4 HB_wc hb_wd | exact after5 HB_wc hb_wd
        replace HSLr := Lib.hid (show Sl wd _ _ _ _ _ _ by first | exact HSLr.out.below hb_wd | exact (HSLr.out.below (grew1 (Below.refl _ _))).below hb_wd | exact (HSLr.out.below (grew2 (Below.refl _ _))).below hb_wd | exact (HSLr.out.below (grew3 (Below.refl _ _))).below hb_wd)
        replace HSO := Lib.hid (show Sl wd _ _ _ _ _ _ by first | exact HSO.out.below hb_wd | exact (HSO.out.below (grew1 (Below.refl _ _))).below hb_wd | exact (HSO.out.below (grew2 (Below.refl _ _))).below hb_wd | exact (HSO.out.below (grew3 (Below.refl _ _))).below hb_wd)
        obtain ⟨⟨⟨y1, y2, y3⟩, y4⟩, hy⟩ : ∃ y, next (ownOf l st kd) st kd now = y := ⟨_, rfl⟩
        rw [hy]
        dsimp only
        clear hy
        go_wp2_with fail
        refine (room_any _ _ _ l _ _ _ _ (by first | exact HSLr.out | exact HSLr.out.below (grew1 (Below.refl _ _)) | exact HSLr.out.below (grew2 (Below.refl _ _)) | exact HSLr.out.below (grew3 (Below.refl _ _)))).mono ?_
        rintro e we ⟨rfl, hb_we⟩
        have HB_we : Below w.heap.size w we := by first | exact after0 HB_wd hb_we | exact after1 HB_wd hb_we | exact after2 HB_wd hb_we | exact after3 HB_wd hb_we | exact after4 HB_wd hb_we | exact after5 HB_wd hb_we
        replace HSLr := Lib.hid (show Sl we _ _ _ _ _ _ by first | exact HSLr.out.below hb_we | exact (HSLr.out.below (grew1 (Below.refl _ _))).below hb_we | exact (HSLr.out.below (grew2 (Below.refl _ _))).below hb_we | exact (HSLr.out.below (grew3 (Below.refl _ _))).below hb_we)
        replace HSO := Lib.hid (show Sl we _ _ _ _ _ _ by first | exact HSO.out.below hb_we | exact (HSO.out.below (grew1 (Below.refl _ _))).below hb_we | exact (HSO.out.below (grew2 (Below.refl _ _))).below hb_we | exact (HSO.out.below (grew3 (Below.refl _ _))).below hb_we)
        rw [hrm]
        dsimp only
        go_wp2_with fail
        refine (room_any _ _ _ (ownOf l st kd) _ _ _ _ (by first | exact HSO.out | exact HSO.out.below (grew1 (Below.refl _ _)) | exact HSO.out.below (grew2 (Below.refl _ _)) | exact HSO.out.below (grew3 (Below.refl _ _)))).mono ?_
        rintro e wf ⟨rfl, hb_wf⟩
        have HB_wf : Below w.heap.size w wf := by first | exact after0 HB_we hb_wf | exact after1 HB_we hb_wf | exact after2 HB_we hb_wf | exact after3 HB_we hb_wf | exact after4 HB_we hb_wf | exact after5 HB_we hb_wf
        replace HSLr := Lib.hid (show Sl wf _ _ _ _ _ _ by first | exact HSLr.out.below hb_wf | exact (HSLr.out.below (grew1 (Below.refl _ _))).below hb_wf | exact (HSLr.out.below (grew2 (Below.refl _ _))).below hb_wf | exact (HSLr.out.below (grew3 (Below.refl _ _))).below hb_wf)
        replace HSO := Lib.hid (show Sl wf _ _ _ _ _ _ by first | exact HSO.out.below hb_wf | exact (HSO.out.below (grew1 (Below.refl _ _))).below hb_wf | exact (HSO.out.below (grew2 (Below.refl _ _))).below hb_wf | exact (HSO.out.below (grew3 (Below.refl _ _))).below hb_wf)
        obtain ⟨⟨z1, z2⟩, hz⟩ : ∃ z, room (ownOf l st kd) st kd now = z := ⟨_, rfl⟩
        rw [hz]
        dsimp only
        clear hz hn hrm h13
        go_wp2_with fail
        refine (rows_any _ _ _ (ownOf l st kd) _ (by first | exact HSO.out | exact HSO.out.below (grew1 (Below.refl _ _)) | exact HSO.out.below (grew2 (Below.refl _ _)) | exact HSO.out.below (grew3 (Below.refl _ _)))).mono ?_
        rintro e wg ⟨rfl, hb_wg⟩
        have HB_wg : Below w.heap.size w wg := by first | exact after0 HB_wf hb_wg | exact after1 HB_wf hb_wg | exact after2 HB_wf hb_wg | exact after3 HB_wf hb_wg | exact after4 HB_wf hb_wg | exact after5 HB_wf hb_wg
        rw [HRW.out]
        go_wp2_with fail
        go_ret
        exact ⟨rfl, HB_wg⟩
      · obtain ⟨hn, hrm⟩ := own_next HRO.out h13
        have h13' : ((next l st kd now).2 == 13) = false := beq_eq_false_iff_ne.2 (next_no13 h13)
        obtain ⟨⟨⟨y1, y2, y3⟩, y4⟩, hy⟩ : ∃ y, next l st kd now = y := ⟨_, rfl⟩
        rw [hy] at hn h13' ⊢
        dsimp only at h13' ⊢
        obtain ⟨⟨z1, z2⟩, hz⟩ : ∃ z, room l st kd now = z := ⟨_, rfl⟩
        rw [hz] at hrm
        have HN1 := Lib.hid hn
        have HN2 := Lib.hid hrm
        have HN3 := Lib.hid hz
        clear hn hrm hz hy h13
        obtain ⟨W1, hW1, hB1, hZ1, hb1⟩ := boxes1 wc [.int .i64 y1, .int .i64 y2, .int .i64 y3] 23
        obtain ⟨NB, hNB⟩ : ∃ NB, wc.heap.size = NB := ⟨_, rfl⟩
        rw [hNB] at hb1
        have H_a := Lib.hid hb1
        have HB_W1 : Below w.heap.size w W1 := after0 HB_wc hB1
        replace HSLr := Lib.hid (HSLr.out.below hB1)
        replace HSO := Lib.hid (HSO.out.below hB1)
        clear hb1 hB1 hZ1
        go_wp2_with fail
        refine (next_any _ _ _ (ownOf l st kd) _ _ _ _ (by first | exact HSO.out | exact HSO.out.below (grew1 (Below.refl _ _)) | exact HSO.out.below (grew2 (Below.refl _ _)) | exact HSO.out.below (grew3 (Below.refl _ _)))).mono ?_
        rintro e wd ⟨rfl, hb_wd⟩
        have HB_wd : Below w.heap.size w wd := by first | exact after0 HB_W1 hb_wd | exact after1 HB_W1 hb_wd | exact after2 HB_W1 hb_wd | exact after3 HB_W1 hb_wd | exact after4 HB_W1 hb_wd | exact after5 HB_W1 hb_wd
        try clear q_a_0 q_a_1 q_a_2
        have H_a := Lib.hid (Box.below (by first | exact H_a.out | exact H_a.out.alloc _ | exact (H_a.out.alloc _).alloc _ | exact ((H_a.out.alloc _).alloc _).alloc _) hb_wd)
        obtain ⟨q_a_0, q_a_1, q_a_2⟩ := H_a.out.c3
        replace HSLr := Lib.hid (show Sl wd _ _ _ _ _ _ by first | exact HSLr.out.below hb_wd | exact (HSLr.out.below (grew1 (Below.refl _ _))).below hb_wd | exact (HSLr.out.below (grew2 (Below.refl _ _))).below hb_wd | exact (HSLr.out.below (grew3 (Below.refl _ _))).below hb_wd)
        replace HSO := Lib.hid (show Sl wd _ _ _ _ _ _ by first | exact HSO.out.below hb_wd | exact (HSO.out.below (grew1 (Below.refl _ _))).below hb_wd | exact (HSO.out.below (grew2 (Below.refl _ _))).below hb_wd | exact (HSO.out.below (grew3 (Below.refl _ _))).below hb_wd)
        clear hW1 hNB
        rw [HN1.out]
        dsimp only
        obtain ⟨W2, hW2, hB2, hZ2, hb2⟩ := boxes1 wd [.int .i64 y1, .int .i64 y2, .int .i64 y3] 23
        obtain ⟨NC, hNC⟩ : ∃ NC, wd.heap.size = NC := ⟨_, rfl⟩
        rw [hNC] at hb2
        have H_b := Lib.hid hb2
        have HB_W2 : Below w.heap.size w W2 := after0 HB_wd hB2
        replace HSLr := Lib.hid (HSLr.out.below hB2)
        replace HSO := Lib.hid (HSO.out.below hB2)
        replace H_a := Lib.hid (H_a.out.below hB2)
        clear hb2 hB2 hZ2
        go_wp2_with fail
        refine (room_any _ _ _ l _ _ _ _ (by first | exact HSLr.out | exact HSLr.out.below (grew1 (Below.refl _ _)) | exact HSLr.out.below (grew2 (Below.refl _ _)) | exact HSLr.out.below (grew3 (Below.refl _ _)))).mono ?_
        rintro e we ⟨rfl, hb_we⟩
        have HB_we : Below w.heap.size w we := by first | exact after0 HB_W2 hb_we | exact after1 HB_W2 hb_we | exact after2 HB_W2 hb_we | exact after3 HB_W2 hb_we | exact after4 HB_W2 hb_we | exact after5 HB_W2 hb_we
        try clear q_a_0 q_a_1 q_a_2
        have H_a := Lib.hid (Box.below (by first | exact H_a.out | exact H_a.out.alloc _ | exact (H_a.out.alloc _).alloc _ | exact ((H_a.out.alloc _).alloc _).alloc _) hb_we)
        obtain ⟨q_a_0, q_a_1, q_a_2⟩ := H_a.out.c3
        try clear q_b_0 q_b_1 q_b_2
        have H_b := Lib.hid (Box.below (by first | exact H_b.out | exact H_b.out.alloc _ | exact (H_b.out.alloc _).alloc _ | exact ((H_b.out.alloc _).alloc _).alloc _) hb_we)
        obtain ⟨q_b_0, q_b_1, q_b_2⟩ := H_b.out.c3
        replace HSLr := Lib.hid (show Sl we _ _ _ _ _ _ by first | exact HSLr.out.below hb_we | exact (HSLr.out.below (grew1 (Below.refl _ _))).below hb_we | exact (HSLr.out.below (grew2 (Below.refl _ _))).below hb_we | exact (HSLr.out.below (grew3 (Below.refl _ _))).below hb_we)
        replace HSO := Lib.hid (show Sl we _ _ _ _ _ _ by first | exact HSO.out.below hb_we | exact (HSO.out.below (grew1 (Below.refl _ _))).below hb_we | exact (HSO.out.below (grew2 (Below.refl _ _))).below hb_we | exact (HSO.out.below (grew3 (Below.refl _ _))).below hb_we)
        clear hW2 hNC
        rw [HN3.out]
        dsimp only
        go_wp2_with fail
        refine (room_any _ _ _ (ownOf l st kd) _ _ _ _ (by first | exact HSO.out | exact HSO.out.below (grew1 (Below.refl _ _)) | exact HSO.out.below (grew2 (Below.refl _ _)) | exact HSO.out.below (grew3 (Below.refl _ _)))).mono ?_
        rintro e wf ⟨rfl, hb_wf⟩
        have HB_wf : Below w.heap.size w wf := by first | exact after0 HB_we hb_wf | exact after1 HB_we hb_wf | exact after2 HB_we hb_wf | exact after3 HB_we hb_wf | exact after4 HB_we hb_wf | exact after5 HB_we hb_wf
        try clear q_a_0 q_a_1 q_a_2
        have H_a := Lib.hid (Box.below (by first | exact H_a.out | exact H_a.out.alloc _ | exact (H_a.out.alloc _).alloc _ | exact ((H_a.out.alloc _).alloc _).alloc _) hb_wf)
        obtain ⟨q_a_0, q_a_1, q_a_2⟩ := H_a.out.c3
        try clear q_b_0 q_b_1 q_b_2
        have H_b := Lib.hid (Box.below (by first | exact H_b.out | exact H_b.out.alloc _ | exact (H_b.out.alloc _).alloc _ | exact ((H_b.out.alloc _).alloc _).alloc _) hb_wf)
        obtain ⟨q_b_0, q_b_1, q_b_2⟩ := H_b.out.c3
        replace HSLr := Lib.hid (show Sl wf _ _ _ _ _ _ by first | exact HSLr.out.below hb_wf | exact (HSLr.out.below (grew1 (Below.refl _ _))).below hb_wf | exact (HSLr.out.below (grew2 (Below.refl _ _))).below hb_wf | exact (HSLr.out.below (grew3 (Below.refl _ _))).below hb_wf)
        replace HSO := Lib.hid (show Sl wf _ _ _ _ _ _ by first | exact HSO.out.below hb_wf | exact (HSO.out.below (grew1 (Below.refl _ _))).below hb_wf | exact (HSO.out.below (grew2 (Below.refl _ _))).below hb_wf | exact (HSO.out.below (grew3 (Below.refl _ _))).below hb_wf)
        rw [HN2.out]
        dsimp only
        go_wp2_with fail
        refine (rows_any _ _ _ (ownOf l st kd) _ (by first | exact HSO.out | exact HSO.out.below (grew1 (Below.refl _ _)) | exact HSO.out.below (grew2 (Below.refl _ _)) | exact HSO.out.below (grew3 (Below.refl _ _)))).mono ?_
        rintro e wg ⟨rfl, hb_wg⟩
        have HB_wg : Below w.heap.size w wg := by first | exact after0 HB_wf hb_wg | exact after1 HB_wf hb_wg | exact after2 HB_wf hb_wg | exact after3 HB_wf hb_wg | exact after4 HB_wf hb_wg | exact after5 HB_wf hb_wg
        try clear q_a_0 q_a_1 q_a_2
        have H_a := Lib.hid (Box.below (by first | exact H_a.out | exact H_a.out.alloc _ | exact (H_a.out.alloc _).alloc _ | exact ((H_a.out.alloc _).alloc _).alloc _) hb_wg)
        obtain ⟨q_a_0, q_a_1, q_a_2⟩ := H_a.out.c3
        try clear q_b_0 q_b_1 q_b_2
        have H_b := Lib.hid (Box.below (by first | exact H_b.out | exact H_b.out.alloc _ | exact (H_b.out.alloc _).alloc _ | exact ((H_b.out.alloc _).alloc _).alloc _) hb_wg)
        obtain ⟨q_b_0, q_b_1, q_b_2⟩ := H_b.out.c3
        rw [HRW.out]
        go_wp2_with fail
        go_ret
        exact ⟨rfl, HB_wg⟩
end Go.Proofs.Ytecnbfgacojpjaa
