/-
  Walks of the layer 'number': Rows, Sure, Who.
-/
import Derived.Test.YtpdecgbfnhaojaaGreatNumA
namespace Go.Proofs.YtpdecgbfnhaojaaGreat
open Go.RowKit Nb Sk

theorem enters_rows1 : ∀ args w, (callFunc 75 args).run Tryz.prog w = .ok (.enter 75 args) w := enters_of Tryz.func75 (by kernel_rfl) rfl

/-- the test that Rows makes of one row, but for the closure's -/
def rowA (last : Int) (u : Us) : Bool := okN u.nm && decide (last ≤ u.fr) && decide (u.fr < u.fe) && tm u.fe
/-- .. and the closure's -/
def rowB (pre : List Us) (u : Us) : Bool := pre.any fun v => decide (v.nm.st = u.nm.st ∧ v.nm.kd = u.nm.kd ∧ v.nm.nu = u.nm.nu) && covI v.fr v.fe u.fr

theorem rowOk_eq (pre : List Us) (last : Int) (u : Us) : rowOk pre last u = (rowA last u && !rowB pre u) := by
  have : (fun v : Us => decide (v.nm = u.nm) && cov v u.fr) = fun v => decide (v.nm.st = u.nm.st ∧ v.nm.kd = u.nm.kd ∧ v.nm.nu = u.nm.nu) && covI v.fr v.fe u.fr := by
    funext v
    obtain ⟨⟨a, b, c⟩, d, e⟩ := v
    obtain ⟨⟨a', b', c'⟩, d', e'⟩ := u
    simp [cov, covI]
  unfold rowOk rowA rowB
  rw [this]

theorem rowsGo_step (l : List Us) (k : Nat) (last : Int) (h : k < l.length) : rowsGo (l.take k) last (l.drop k) = (rowA last l[k] && !rowB (l.take k) l[k] && rowsGo (l.take (k + 1)) l[k].fr (l.drop (k + 1))) := by
  rw [List.drop_eq_getElem_cons h, rowsGo, rowOk_eq, List.take_succ_eq_append_getElem h]

set_option maxHeartbeats 1000000 in
theorem rows_any (ao : Option Addr) (n cap : Nat) (l : List Us) (w : World) (hs : Sl w 5 cU ao n cap l) :
    Calls Tryz.prog 38 #[.slice ao n cap] w (Ret w (.bool (rows l))) := by
  obtain rfl := hs.len
  have hcap := hs.max
  have hle := hs.le
  unfold maxLen at hcap
  have HS : Hid (Sl w 5 cU ao l.length cap l) := hs
  clear hs
  by_cases h200 : 200 < l.length
  · go_enter Tryz.func38, Tryz.ntmps38
    go_wp2
    go_ret
    exact ⟨ret_bool (by simp [rows]; omega), Below.refl _ _⟩
  have HG : Hid (rows l = rowsGo [] 0 l) := by show _ = _; simp [rows, show l.length ≤ 200 by omega]
  generalize rows l = res at *
  go_enter Tryz.func38, Tryz.ntmps38
  go_wp2
  go_loopw [3, 11] (fun la i wr => ∃ (k : Nat) (last : Int), k ≤ l.length ∧ i = .int .i64 k ∧ la = .int .i64 last ∧ Below w.heap.size w wr ∧ Hid (res = rowsGo (l.take k) last (l.drop k))) (fun _ i _ => l.length - (intOf i).toNat)
  case atStart => exact ⟨0, 0, Nat.zero_le _, rfl, rfl, Below.refl _ _, by simpa using HG⟩
  case round =>
    obtain ⟨k, last, hk, rfl, rfl, hbel, HR⟩ := hrel
    by_cases hlt : k < l.length
    · obtain ⟨b, off, rfl, hb, hrow⟩ := HS.out.get hlt
      obtain ⟨h0, h1, h2, h3, h4⟩ := ((hrow k hlt).below hbel hb).c5
      clear hrow
      go_wp2_with fail
      refine (valid_any _ _ _ _).mono ?_
      rintro e wa ⟨rfl, hb2⟩
      obtain ⟨hbc, hbf⟩ := bcell hb2
      have hz := hb2.size
      have HC : Hid (Cells wa wr.heap.size 0 (cU l[k])) := (cells_alloc wr (cU l[k]) 43).below hb2 (by simp)
      have HB : Below w.heap.size w wa := (hbel.alloc hbel.size _).trans (hb2.mono (by have := hbel.size; simp; omega))
      clear hb2
      go_wp2_with fail
      · go_ret
        refine ⟨ret_bool' ?_, HB⟩
        rw [HR.out, rowsGo_step _ _ _ hlt]
        simp [rowA, *]
      · go_ret
        refine ⟨ret_bool' ?_, HB⟩
        rw [HR.out, rowsGo_step _ _ _ hlt]
        have h : l[k].fr < last := by assumption
        simp [rowA, show ¬ last ≤ l[k].fr by omega]
      · go_ret
        refine ⟨ret_bool' ?_, HB⟩
        rw [HR.out, rowsGo_step _ _ _ hlt]
        have h : l[k].fe ≤ l[k].fr := by assumption
        simp [rowA, show ¬ l[k].fr < l[k].fe by omega]
      · have g1 : okN ⟨l[k].nm.st, l[k].nm.kd, l[k].nm.nu⟩ = true := by assumption
        have g2 : last ≤ l[k].fr := by assumption
        have g3 : l[k].fr < l[k].fe := by assumption
        refine (moment_any _ _).mono ?_
        rintro e wb ⟨rfl, hb3⟩
        obtain ⟨hbc3, hbf3⟩ := bcell hb3
        have HB3 : Below w.heap.size w wb := HB.trans (hb3.mono HB.size)
        have HC3 : Hid (Cells wb wr.heap.size 0 (cU l[k])) := HC.out.below hb3 (by simp at hz; omega)
        have hz3 := hb3.size
        clear hb3
        go_wp2_with fail
        · have h : (!tm l[k].fe) = true := by assumption
          go_ret
          refine ⟨ret_bool' ?_, HB3⟩
          rw [HR.out, rowsGo_step _ _ _ hlt]
          simp at h
          simp [rowA, h]
        · have h : (!tm l[k].fe) = false := by assumption
          have g4 : tm l[k].fe = true := by simpa using h
          have hsz : wr.heap.size < wb.heap.size := by simp at hz; omega
          have HK : Hid (Sl wb 5 cU (some ⟨b, off, none⟩) k cap (l.take k)) := (HS.out.take (n := k) (by omega)).below HB3
          have HQ : Hid (Asks Tryz.prog 75 #[.pointer (some ⟨wr.heap.size, 0, none⟩)] eU (fun v => decide (v.nm.st = l[k].nm.st ∧ v.nm.kd = l[k].nm.kd ∧ v.nm.nu = l[k].nm.nu) && covI v.fr v.fe l[k].fr) (l.take k) wb) :=
            fun W v hW _ => rows1_any _ _ _ _ _ _ _ _ _ _ _ W (Nat.lt_of_lt_of_le hsz hW.size) (HC3.out.below hW hsz)
          have hcall := containsFunc_any _ _ _ _ _ _ _ wb HK.out HQ.out enters_rows1
          have HG : Hid (res = (!rowB (l.take k) l[k] && rowsGo (l.take (k + 1)) l[k].fr (l.drop (k + 1)))) := by
            show _ = _
            rw [HR.out, rowsGo_step _ _ _ hlt]
            simp [rowA, g1, g2, g3, g4]
          change Calls _ _ _ _ (Ret wb (.bool (rowB (l.take k) l[k]))) at hcall
          generalize rowB (l.take k) l[k] = q at *
          refine hcall.mono ?_
          rintro e wd ⟨rfl, hb4⟩
          obtain ⟨hbc4, hbf4⟩ := bcell hb4
          have HB4 : Below w.heap.size w wd := HB3.trans (hb4.mono HB3.size)
          obtain ⟨k0, k1, k2, k3, k4⟩ := (HC3.out.below hb4 hsz).c5
          clear hcall hb4 hbc4 hbf4 hbc3 hbf3 hbc hbf
          cases q
          · go_wp2_with fail
            go_roundw
            case rel => exact ⟨k + 1, l[k].fr, by omega, by go_num, rfl, HB4, by show _ = _; simpa using HG.out⟩
            case measure => simp [intOf]; omega
          · go_wp2_with fail
            go_ret
            exact ⟨ret_bool' (by simpa using HG.out), HB4⟩
    · have HG : Hid (res = true) := by
        show _ = _
        rw [HR.out, List.drop_eq_nil_of_le (by omega)]; rfl
      go_wp2
      go_ret
      exact ⟨ret_bool' HG.out.symm, hbel⟩

theorem enters_sure1 : ∀ args w, (callFunc 79 args).run Tryz.prog w = .ok (.enter 79 args) w := enters_of Tryz.func79 (by kernel_rfl) rfl

theorem sure1_any (us uk un lo hi vs vk vn vf ve : Int) (B C : Nat) (w : World) (hc : Cells w B 0 [.int .i64 us, .int .i64 uk, .int .i64 un]) (hd : Cells w C 0 [.int .i64 lo, .int .i64 hi]) (hB : B < w.heap.size) (hC : C < w.heap.size) :
    Calls Tryz.prog 79 #[.agg #[.int .i64 vs, .int .i64 vk, .int .i64 vn, .int .i64 vf, .int .i64 ve], .pointer (some ⟨B, 0, none⟩), .pointer (some ⟨C, 0, none⟩)] w (Ret w (.bool (meets ⟨us, uk, un⟩ lo hi ⟨⟨vs, vk, vn⟩, vf, ve⟩))) := by
  obtain ⟨h0, h1, h2⟩ := hc.c3
  obtain ⟨k0, k1⟩ := hd.c2
  clear hc hd
  go_enter Tryz.func79, Tryz.ntmps79
  go_wp2
  all_goals
    go_ret
    refine ⟨ret_bool ?_, ((Below.refl _ w).alloc (Nat.le_refl _) _)⟩
    simp [meets, *]
  all_goals omega

/-- the error of what Sure is asked -/
def sureBad (l : List Us) (n : Nm) (lo hi : Int) : Bool := !(rows l) || !(okN n) || !(tm lo) || !(tm hi) || decide (hi < lo)
theorem sure_bad {l : List Us} {n : Nm} {lo hi : Int} (h : sureBad l n lo hi = true) : sure l n lo hi = (0, 1) := by unfold sureBad at h; unfold sure; rw [if_pos h]
theorem sure_none {l : List Us} {n : Nm} {lo hi : Int} (h : sureBad l n lo hi = false) (h2 : fIdx (meets n lo hi) l < 0) : sure l n lo hi = (0, 4) := by
  unfold sureBad at h; unfold sure; rw [if_neg (by rw [h]; simp)]
  unfold fIdx at h2
  split at h2
  · omega
  · rename_i h3; rw [h3]
theorem sure_some {l : List Us} {n : Nm} {lo hi : Int} (h : sureBad l n lo hi = false) {i : Nat} (h2 : fIdx (meets n lo hi) l = i) :
    sure l n lo hi = if (l.drop (i + 1)).any (meets n lo hi) then (0, 5) else ((i : Int), 0) := by
  unfold sureBad at h; unfold sure; rw [if_neg (by rw [h]; simp)]
  unfold fIdx at h2
  split at h2
  · rename_i j h3; rw [h3]; have : i = j := by omega
    subst this; rfl
  · omega
theorem fIdx_range {α : Type} (p : α → Bool) (l : List α) : -1 ≤ fIdx p l ∧ fIdx p l < l.length := by
  cases h : l.findIdx? p with
  | none => rw [fIdx_none h]; omega
  | some i => rw [fIdx_some h]; obtain ⟨hi, _⟩ := List.findIdx?_eq_some_iff_getElem.1 h; omega
theorem ret_pair {k k' : IntKind} {a b : Int} {p : Int × Int} (h : p = (a, b)) : Ending.returned (.tuple #[.int k a, .int k' b]) = .returned (.tuple #[.int k p.1, .int k' p.2]) := by rw [h]

set_option maxHeartbeats 2000000 in
theorem sure_any (ao : Option Addr) (n cap : Nat) (l : List Us) (us uk un lo hi : Int) (w : World) (hs : Sl w 5 cU ao n cap l) :
    Calls Tryz.prog 41 #[.slice ao n cap, .agg #[.int .i64 us, .int .i64 uk, .int .i64 un], .agg #[.int .i64 lo, .int .i64 hi]] w
      (Ret w (.tuple #[.int .i64 (sure l ⟨us, uk, un⟩ lo hi).1, .int .i64 (sure l ⟨us, uk, un⟩ lo hi).2])) := by
  obtain rfl := hs.len
  have hcap := hs.max
  have hle := hs.le
  unfold maxLen at hcap
  have HS := Lib.hid hs
  clear hs
  obtain ⟨W0, hW0, HB_W0, hZ, hn, ht⟩ := boxes2 w [.int .i64 us, .int .i64 uk, .int .i64 un] [.int .i64 lo, .int .i64 hi] 29 25
  have H_n := Lib.hid hn
  have H_t := Lib.hid ht
  clear hn ht
  obtain ⟨p, hp⟩ : ∃ p, sure l ⟨us, uk, un⟩ lo hi = p := ⟨_, rfl⟩
  have HP := Lib.hid hp
  rw [hp]
  clear hp
  have HE : Hid (sureBad l ⟨us, uk, un⟩ lo hi = (!(rows l) || !(okN ⟨us, uk, un⟩) || !(tm lo) || !(tm hi) || decide (hi < lo))) := rfl
  go_enter Tryz.func41, Tryz.ntmps41
  go_wp2_with fail
  refine (rows_any _ _ _ l _ (HS.out.below HB_W0)).mono ?_
  rintro e wa ⟨rfl, hb_wa⟩
  have HB_wa : Below w.heap.size w wa := by first | exact after0 HB_W0 hb_wa | exact after1 HB_W0 hb_wa | exact after2 HB_W0 hb_wa | exact after3 HB_W0 hb_wa | exact after4 HB_W0 hb_wa | exact after5 HB_W0 hb_wa
  try clear q_n_0 q_n_1 q_n_2
  have H_n := Lib.hid (Box.below (by first | exact H_n.out | exact H_n.out.alloc _ | exact (H_n.out.alloc _).alloc _ | exact ((H_n.out.alloc _).alloc _).alloc _) hb_wa)
  obtain ⟨q_n_0, q_n_1, q_n_2⟩ := H_n.out.c3
  try clear q_t_0 q_t_1
  have H_t := Lib.hid (Box.below (by first | exact H_t.out | exact H_t.out.alloc _ | exact (H_t.out.alloc _).alloc _ | exact ((H_t.out.alloc _).alloc _).alloc _) hb_wa)
  obtain ⟨q_t_0, q_t_1⟩ := H_t.out.c2
  clear hW0
  go_wp2_with fail
  · have h : rows l = false := by assumption
    go_ret2
    exact ⟨ret_pair (HP.out.symm.trans (sure_bad (by rw [HE.out, h]; rfl))), HB_wa⟩
  have g1 : rows l = true := by assumption
  refine (valid_any _ _ _ _).mono ?_
  rintro e wb ⟨rfl, hb_wb⟩
  have HB_wb : Below w.heap.size w wb := by first | exact after0 HB_wa hb_wb | exact after1 HB_wa hb_wb | exact after2 HB_wa hb_wb | exact after3 HB_wa hb_wb | exact after4 HB_wa hb_wb | exact after5 HB_wa hb_wb
  try clear q_n_0 q_n_1 q_n_2
  have H_n := Lib.hid (Box.below (by first | exact H_n.out | exact H_n.out.alloc _ | exact (H_n.out.alloc _).alloc _ | exact ((H_n.out.alloc _).alloc _).alloc _) hb_wb)
  obtain ⟨q_n_0, q_n_1, q_n_2⟩ := H_n.out.c3
  try clear q_t_0 q_t_1
  have H_t := Lib.hid (Box.below (by first | exact H_t.out | exact H_t.out.alloc _ | exact (H_t.out.alloc _).alloc _ | exact ((H_t.out.alloc _).alloc _).alloc _) hb_wb)
  obtain ⟨q_t_0, q_t_1⟩ := H_t.out.c2
  go_wp2_with fail
  · have h : okN ⟨us, uk, un⟩ = false := by first | assumption | exact bnot_t (by assumption)
    go_ret2
    exact ⟨ret_pair (HP.out.symm.trans (sure_bad (by rw [HE.out, h]; simp))), HB_wb⟩
  have g2 : okN ⟨us, uk, un⟩ = true := by first | assumption | exact bnot_f (by assumption)
  refine (moment_any _ _).mono ?_
  rintro e wc ⟨rfl, hb_wc⟩
  have HB_wc : Below w.heap.size w wc := by first | exact after0 HB_wb hb_wc | exact after1 HB_wb hb_wc | exact after2 HB_wb hb_wc | exact after3 HB_wb hb_wc | exact after4 HB_wb hb_wc | exact after5 HB_wb hb_wc
  try clear q_n_0 q_n_1 q_n_2
  have H_n := Lib.hid (Box.below (by first | exact H_n.out | exact H_n.out.alloc _ | exact (H_n.out.alloc _).alloc _ | exact ((H_n.out.alloc _).alloc _).alloc _) hb_wc)
  obtain ⟨q_n_0, q_n_1, q_n_2⟩ := H_n.out.c3
  try clear q_t_0 q_t_1
  have H_t := Lib.hid (Box.below (by first | exact H_t.out | exact H_t.out.alloc _ | exact (H_t.out.alloc _).alloc _ | exact ((H_t.out.alloc _).alloc _).alloc _) hb_wc)
  obtain ⟨q_t_0, q_t_1⟩ := H_t.out.c2
  go_wp2_with fail
  · have h : tm lo = false := by first | assumption | exact bnot_t (by assumption)
    go_ret2
    exact ⟨ret_pair (HP.out.symm.trans (sure_bad (by rw [HE.out, h]; simp))), HB_wc⟩
  have g3 : tm lo = true := by first | assumption | exact bnot_f (by assumption)
  refine (moment_any _ _).mono ?_
  rintro e wd ⟨rfl, hb_wd⟩
  have HB_wd : Below w.heap.size w wd := by first | exact after0 HB_wc hb_wd | exact after1 HB_wc hb_wd | exact after2 HB_wc hb_wd | exact after3 HB_wc hb_wd | exact after4 HB_wc hb_wd | exact after5 HB_wc hb_wd
  try clear q_n_0 q_n_1 q_n_2
  have H_n := Lib.hid (Box.below (by first | exact H_n.out | exact H_n.out.alloc _ | exact (H_n.out.alloc _).alloc _ | exact ((H_n.out.alloc _).alloc _).alloc _) hb_wd)
  obtain ⟨q_n_0, q_n_1, q_n_2⟩ := H_n.out.c3
  try clear q_t_0 q_t_1
  have H_t := Lib.hid (Box.below (by first | exact H_t.out | exact H_t.out.alloc _ | exact (H_t.out.alloc _).alloc _ | exact ((H_t.out.alloc _).alloc _).alloc _) hb_wd)
  obtain ⟨q_t_0, q_t_1⟩ := H_t.out.c2
  go_wp2_with fail
  · have h : tm hi = false := by first | assumption | exact bnot_t (by assumption)
    go_ret2
    exact ⟨ret_pair (HP.out.symm.trans (sure_bad (by rw [HE.out, h]; simp))), HB_wd⟩
  · have h : hi < lo := by assumption
    go_ret2
    exact ⟨ret_pair (HP.out.symm.trans (sure_bad (by rw [HE.out]; simp [h]))), HB_wd⟩
  have g4 : tm hi = true := by first | assumption | exact bnot_f (by assumption)
  have g5 : lo ≤ hi := by assumption
  have g0 : Hid (sureBad l ⟨us, uk, un⟩ lo hi = false) := by
    show _ = _
    rw [HE.out, g1, g2, g3, g4]; simp [g5]
  have hlt_n := H_n.out.lt
  have hlt_t := H_t.out.lt
  have HQ : Hid (Asks Tryz.prog 79 #[.pointer (some ⟨w.heap.size, 0, none⟩), .pointer (some ⟨w.heap.size + 1, 0, none⟩)] eU (meets ⟨us, uk, un⟩ lo hi) l wd) :=
    fun W v hW _ => sure1_any _ _ _ _ _ _ _ _ _ _ _ _ W ((H_n.out.below hW).cells) ((H_t.out.below hW).cells) (H_n.out.below hW).lt (H_t.out.below hW).lt
  have hcall := indexFunc_any _ _ _ _ _ _ _ wd (HS.out.below HB_wd) HQ.out enters_sure1
  have hrg := fIdx_range (meets ⟨us, uk, un⟩ lo hi) l
  obtain ⟨r, hr⟩ : ∃ r, fIdx (meets ⟨us, uk, un⟩ lo hi) l = r := ⟨_, rfl⟩
  rw [hr] at hcall hrg
  have HR := Lib.hid hr
  clear hr HE
  refine hcall.mono ?_
  rintro e we ⟨rfl, hb_we⟩
  have HB_we := after0 HB_wd hb_we
  have HQe : Hid (Asks Tryz.prog 79 #[.pointer (some ⟨w.heap.size, 0, none⟩), .pointer (some ⟨w.heap.size + 1, 0, none⟩)] eU (meets ⟨us, uk, un⟩ lo hi) l we) :=
    fun W v hW hv => HQ.out W v (after0 hb_we hW) hv
  clear hcall
  by_cases hneg : r < 0
  · go_wp2_with fail
    go_ret2
    exact ⟨ret_pair (HP.out.symm.trans (sure_none g0.out (by rw [HR.out]; exact hneg))), HB_we⟩
  obtain ⟨i, rfl⟩ : ∃ i : Nat, r = i := ⟨r.toNat, by omega⟩
  have hil : i < l.length := by omega
  obtain ⟨b, off, rfl, hb, _⟩ := HS.out.get hil
  go_wp2_with fail
  case' inl =>
    have hcall := containsFunc_any _ _ _ _ _ _ _ we ((HS.out.below HB_we).dropEnd (n := i + 1) (by omega) (by assumption) (a' := ⟨b, off, none⟩)) (fun W v hW hv => HQe.out W v hW (List.mem_of_mem_drop hv)) enters_sure1
  case' inr =>
    have hcall := containsFunc_any _ _ _ _ _ _ _ we ((HS.out.below HB_we).dropMid (n := i + 1) (by omega)) (fun W v hW hv => HQe.out W v hW (List.mem_of_mem_drop hv)) enters_sure1
  all_goals
    have hpv := sure_some g0.out HR.out
    obtain ⟨q, hq⟩ : ∃ q, (l.drop (i + 1)).any (meets ⟨us, uk, un⟩ lo hi) = q := ⟨_, rfl⟩
    rw [hq] at hcall hpv
    have HV := Lib.hid hpv
    clear hpv hq
    refine hcall.mono ?_
    rintro e wf ⟨rfl, hb_wf⟩
    have HB_wf := after0 HB_we hb_wf
    clear hcall
    cases q
    all_goals
      go_wp2_with fail
      go_ret2
      exact ⟨ret_pair (HP.out.symm.trans (HV.out.trans rfl)), HB_wf⟩
end Go.Proofs.YtpdecgbfnhaojaaGreat
