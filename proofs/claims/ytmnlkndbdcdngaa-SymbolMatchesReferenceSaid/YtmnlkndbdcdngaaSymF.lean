/-
  Walks of the layer 'symbol': the closures of Lost and Changed, symbols.
-/
import Derived.Test.YtmnlkndbdcdngaaSymE
import Derived.Test.YtmnlkndbdcdngaaAppIn
namespace Go.Proofs.Ytmnlkndbdcdngaa
open Go.RowKit Sb Sk Go.Sort Go.Shelf
set_option linter.unusedVariables false
attribute [local go_sem] Oper.semAt_some

abbrev cI (n : Int) : List Value := [.int .i64 n]
theorem cI_len (n : Int) : (cI n).length = 1 := rfl
theorem cI_one (n : Int) : ∀ v ∈ cI n, v.oneCell' = true := by
  intro v hv
  simp [cI] at hv
  rcases hv with rfl; rfl
theorem cM_one (m : Mk) : ∀ v ∈ cM m, v.oneCell' = true := by
  intro v hv
  simp [cM] at hv
  rcases hv with rfl | rfl | rfl <;> rfl
theorem info_int : (Try.prog.info? 3).map (fun i => (i.zero, i.size, i.bytes)) = some (some (.int .i64 0), 1, 8) := by kernel_rfl

/-- the test that Lost or Changed makes: a function of the program that asks this -/
def IsFn (g : Nat) (is : Mk → Mk → Bool → Bool) : Prop := ∀ (a b c a' b' c' : Int) (ok : Bool) (w : World),
  Calls Try.prog g #[.agg #[.int .i64 a, .int .i64 b, .int .i64 c], .agg #[.int .i64 a', .int .i64 b', .int .i64 c'], .bool ok] w (Ret w (.bool (is ⟨a, b, c⟩ ⟨a', b', c'⟩ ok)))

theorem lost1_any : IsFn 37 isLost := by
  intro a b c a' b' c' ok w
  go_enter Try.func37, Try.ntmps37
  go_wp2
  go_ret
  exact ⟨rfl, grew2 (Below.refl _ _)⟩
theorem changed1_any : IsFn 38 isChanged := by
  intro a b c a' b' c' ok w
  cases ok
  · go_enter Try.func38, Try.ntmps38
    go_wp2
    go_ret
    exact ⟨rfl, grew2 (Below.refl _ _)⟩
  · go_enter Try.func38, Try.ntmps38
    go_wp2
    all_goals
      go_ret
      exact ⟨ret_bool (by simp [isChanged]), grew2 (Below.refl _ _)⟩
theorem enters_lost1 : ∀ args w, (callFunc 37 args).run Try.prog w = .ok (.enter 37 args) w := enters_of Try.func37 (by kernel_rfl) rfl
theorem enters_changed1 : ∀ args w, (callFunc 38 args).run Try.prog w = .ok (.enter 38 args) w := enters_of Try.func38 (by kernel_rfl) rfl
theorem enters_symbols1 : ∀ args w, (callFunc 44 args).run Try.prog w = .ok (.enter 44 args) w := enters_of Try.func44 (by kernel_rfl) rfl

theorem symbols1_any (g : Nat) (is : Mk → Mk → Bool → Bool) (hg : IsFn g is) (eg : ∀ args w, (callFunc g args).run Try.prog w = .ok (.enter g args) w) (x y z : Int) (NB NI TB TI : Nat) (ob : Int) (ab : Option Addr) (nb cb : Nat) (b : List Mk) (w : World)
    (hB : Box w NB TB [.int .i64 ob, .slice ab nb cb]) (hI : Box w NI TI [.func (.func g) #[] #[]]) (hs : Sl w 3 cM ab nb cb b) :
    Calls Try.prog 44 #[.agg #[.int .i64 x, .int .i64 y, .int .i64 z], .pointer (some ⟨NB, 0, none⟩), .pointer (some ⟨NI, 0, none⟩)] w
      (Ret w (.bool (is ⟨x, y, z⟩ (trans b ⟨x, y, z⟩) (found (trans b ⟨x, y, z⟩))))) := by
  obtain ⟨W0, hW0, HB_W0, hZ, hn⟩ := boxes1 w [.int .i64 x, .int .i64 y, .int .i64 z] 29
  have H_n := Lib.hid hn
  have HS := Lib.hid (hs.below HB_W0)
  have H_b := Lib.hid (hB.below HB_W0)
  have H_i := Lib.hid (hI.below HB_W0)
  have HG := Lib.hid hg
  clear hn hs hB hI hZ hg
  obtain ⟨q_n_0, q_n_1, q_n_2⟩ := H_n.out.c3
  obtain ⟨q_b_0, q_b_1⟩ := H_b.out.c2
  go_enter Try.func44, Try.ntmps44
  go_wp2_with fail
  refine (translation_any _ _ _ _ b _ _ _ _ HS.out).mono ?_
  rintro e wa ⟨rfl, hb_wa⟩
  have HB_wa : Below w.heap.size w wa := by first | exact after0 HB_W0 hb_wa | exact after1 HB_W0 hb_wa | exact after2 HB_W0 hb_wa | exact after3 HB_W0 hb_wa | exact after4 HB_W0 hb_wa | exact after5 HB_W0 hb_wa
  try clear q_n_0 q_n_1 q_n_2
  have H_n := Lib.hid (Box.below (by first | exact H_n.out | exact H_n.out.alloc _ | exact (H_n.out.alloc _).alloc _ | exact ((H_n.out.alloc _).alloc _).alloc _) hb_wa)
  obtain ⟨q_n_0, q_n_1, q_n_2⟩ := H_n.out.c3
  try clear q_i_0
  have H_i := Lib.hid (Box.below (by first | exact H_i.out | exact H_i.out.alloc _ | exact (H_i.out.alloc _).alloc _ | exact ((H_i.out.alloc _).alloc _).alloc _) hb_wa)
  have q_i_0 := H_i.out.c1
  clear hW0 q_b_0 q_b_1
  generalize trans b ⟨x, y, z⟩ = t at *
  obtain ⟨t0, t1, t2⟩ := t
  dsimp only
  generalize found ⟨t0, t1, t2⟩ = fo at *
  obtain ⟨W1, hW1, hB1, hZ1, hb1⟩ := boxes1 wa [.int .i64 t0, .int .i64 t1, .int .i64 t2] 29
  have HB_W1 : Below w.heap.size w W1 := after0 HB_wa hB1
  replace H_n := Lib.hid (H_n.out.below hB1)
  replace H_i := Lib.hid (H_i.out.below hB1)
  have H_x := Lib.hid hb1
  clear hb1 hB1 hZ1
  obtain ⟨q_n_0, q_n_1, q_n_2⟩ := H_n.out.c3
  obtain ⟨q_x_0, q_x_1, q_x_2⟩ := H_x.out.c3
  have q_i_0 := H_i.out.c1
  go_wp2_with fail
  refine (HG.out _ _ _ _ _ _ _ _).mono ?_
  rintro e wb ⟨rfl, hb_wb⟩
  have HB_wb := after0 HB_W1 hb_wb
  clear hW1 hb_wb q_n_0 q_n_1 q_n_2 q_x_0 q_x_1 q_x_2
  go_wp2_with fail
  go_ret
  exact ⟨rfl, HB_wb⟩

/-- integers and an error -/
def Syms (w : World) (p : List Int × Int) (e : Ending) (w' : World) : Prop :=
  ∃ ao n cap, e = .returned (.tuple #[.slice ao n cap, .int .i64 p.2]) ∧ Sl w' 1 cI ao n cap p.1 ∧ OwnL w' w.heap.size 3 1 cI (.slice ao n cap) p.1 ∧ Below w.heap.size w w'

theorem symsF_bad {oa ob : Int} {a b : List Mk} {is : Mk → Mk → Bool → Bool} (h : (okB oa a && okB ob b) = false) : symsF oa a ob b is = ([], 1) := by
  unfold symsF; rw [if_neg (by rw [h]; simp)]
theorem symsF_ok {oa ob : Int} {a b : List Mk} {is : Mk → Mk → Bool → Bool} (h : (okB oa a && okB ob b) = true) : symsF oa a ob b is = ((a.filter fun m => is m (trans b m) (found (trans b m))).map Mk.sy, 0) := by
  unfold symsF; rw [if_pos h]

set_option maxRecDepth 100000 in
set_option maxHeartbeats 4000000 in
theorem symbols_any (g : Nat) (is : Mk → Mk → Bool → Bool) (hg : IsFn g is) (eg : ∀ args w, (callFunc g args).run Try.prog w = .ok (.enter g args) w) (oa : Int) (aa : Option Addr) (na ca : Nat) (a : List Mk) (ob : Int) (ab : Option Addr) (nb cb : Nat) (b : List Mk) (w : World)
    (ha : Sl w 3 cM aa na ca a) (hb : Sl w 3 cM ab nb cb b) :
    Calls Try.prog 36 #[.agg #[.int .i64 oa, .slice aa na ca], .agg #[.int .i64 ob, .slice ab nb cb], .func (.func g) #[] #[]] w (Syms w (symsF oa a ob b is)) := by
  obtain ⟨W0, hW0, HB_W0, hZ, hn, hm, hi⟩ := boxes3 w [.int .i64 oa, .slice aa na ca] [.int .i64 ob, .slice ab nb cb] [.func (.func g) #[] #[]] 24 24 57
  have H_n := Lib.hid hn
  have H_m := Lib.hid hm
  have H_i := Lib.hid hi
  have HSA := Lib.hid (ha.below HB_W0)
  have HSB := Lib.hid (hb.below HB_W0)
  have HLA := Lib.hid (sbs_lt ha)
  have HLB := Lib.hid (sbs_lt hb)
  have HG := Lib.hid hg
  clear ha hb hn hm hi hZ hg
  have HBAD := Lib.hid (@symsF_bad oa ob a b is)
  have HOK := Lib.hid (@symsF_ok oa ob a b is)
  generalize symsF oa a ob b is = p at *
  obtain ⟨q_n_0, q_n_1⟩ := H_n.out.c2
  obtain ⟨q_m_0, q_m_1⟩ := H_m.out.c2
  refine (callsIn_wide (n := 10)).1 (callsIn_of_wp_marks Try.func36 rfl trivial (wpIn_wide.2 ?_) rfl)
  simp only [Try.ntmps36, List.size_toArray, List.length_cons, List.length_nil, Nat.reduceAdd, Nat.reduceSub, Array.replicate_succ, Array.replicate_zero, List.push_toArray, List.append_toArray, List.nil_append, List.cons_append]
  go_wp2_with fail
  refine (bvalid_any _ _ _ _ a _ HSA.out).mono ?_
  rintro e wa ⟨rfl, hb_wa⟩
  have HB_wa : Below w.heap.size w wa := by first | exact after0 HB_W0 hb_wa | exact after1 HB_W0 hb_wa | exact after2 HB_W0 hb_wa | exact after3 HB_W0 hb_wa | exact after4 HB_W0 hb_wa | exact after5 HB_W0 hb_wa
  try clear q_n_0 q_n_1
  have H_n := Lib.hid (Box.below (by first | exact H_n.out | exact H_n.out.alloc _ | exact (H_n.out.alloc _).alloc _ | exact ((H_n.out.alloc _).alloc _).alloc _) hb_wa)
  obtain ⟨q_n_0, q_n_1⟩ := H_n.out.c2
  try clear q_m_0 q_m_1
  have H_m := Lib.hid (Box.below (by first | exact H_m.out | exact H_m.out.alloc _ | exact (H_m.out.alloc _).alloc _ | exact ((H_m.out.alloc _).alloc _).alloc _) hb_wa)
  obtain ⟨q_m_0, q_m_1⟩ := H_m.out.c2
  try clear q_i_0
  have H_i := Lib.hid (Box.below (by first | exact H_i.out | exact H_i.out.alloc _ | exact (H_i.out.alloc _).alloc _ | exact ((H_i.out.alloc _).alloc _).alloc _) hb_wa)
  have q_i_0 := H_i.out.c1
  replace HSA := Lib.hid (show Sl wa _ _ _ _ _ _ by first | exact HSA.out.below hb_wa | exact (HSA.out.below (grew1 (Below.refl _ _))).below hb_wa | exact (HSA.out.below (grew2 (Below.refl _ _))).below hb_wa | exact (HSA.out.below (grew3 (Below.refl _ _))).below hb_wa)
  replace HSB := Lib.hid (show Sl wa _ _ _ _ _ _ by first | exact HSB.out.below hb_wa | exact (HSB.out.below (grew1 (Below.refl _ _))).below hb_wa | exact (HSB.out.below (grew2 (Below.refl _ _))).below hb_wa | exact (HSB.out.below (grew3 (Below.refl _ _))).below hb_wa)
  clear hW0
  cases h1 : okB oa a
  · have HP2 := Lib.hid (HBAD.out (by simp [h1]))
    go_wp2_with fail
    refine marks_ret0 (v := .tuple #[.slice none 0 0, .int .i64 1]) (by simp [results, Try.results36, go_sem]) rfl ?_
    exact ⟨none, 0, 0, by rw [HP2.out], by rw [HP2.out]; exact Sl.nil, by rw [HP2.out]; exact OwnL.nil, HB_wa⟩
  go_wp2_with fail
  refine (bvalid_any _ _ _ _ b _ HSB.out).mono ?_
  rintro e wc ⟨rfl, hb_wc⟩
  have HB_wc : Below w.heap.size w wc := by first | exact after0 HB_wa hb_wc | exact after1 HB_wa hb_wc | exact after2 HB_wa hb_wc | exact after3 HB_wa hb_wc | exact after4 HB_wa hb_wc | exact after5 HB_wa hb_wc
  try clear q_n_0 q_n_1
  have H_n := Lib.hid (Box.below (by first | exact H_n.out | exact H_n.out.alloc _ | exact (H_n.out.alloc _).alloc _ | exact ((H_n.out.alloc _).alloc _).alloc _) hb_wc)
  obtain ⟨q_n_0, q_n_1⟩ := H_n.out.c2
  try clear q_m_0 q_m_1
  have H_m := Lib.hid (Box.below (by first | exact H_m.out | exact H_m.out.alloc _ | exact (H_m.out.alloc _).alloc _ | exact ((H_m.out.alloc _).alloc _).alloc _) hb_wc)
  obtain ⟨q_m_0, q_m_1⟩ := H_m.out.c2
  try clear q_i_0
  have H_i := Lib.hid (Box.below (by first | exact H_i.out | exact H_i.out.alloc _ | exact (H_i.out.alloc _).alloc _ | exact ((H_i.out.alloc _).alloc _).alloc _) hb_wc)
  have q_i_0 := H_i.out.c1
  replace HSA := Lib.hid (show Sl wc _ _ _ _ _ _ by first | exact HSA.out.below hb_wc | exact (HSA.out.below (grew1 (Below.refl _ _))).below hb_wc | exact (HSA.out.below (grew2 (Below.refl _ _))).below hb_wc | exact (HSA.out.below (grew3 (Below.refl _ _))).below hb_wc)
  replace HSB := Lib.hid (show Sl wc _ _ _ _ _ _ by first | exact HSB.out.below hb_wc | exact (HSB.out.below (grew1 (Below.refl _ _))).below hb_wc | exact (HSB.out.below (grew2 (Below.refl _ _))).below hb_wc | exact (HSB.out.below (grew3 (Below.refl _ _))).below hb_wc)
  cases h2 : okB ob b
  · have HP2 := Lib.hid (HBAD.out (by simp [h2]))
    go_wp2_with fail
    refine marks_ret0 (v := .tuple #[.slice none 0 0, .int .i64 1]) (by simp [results, Try.results36, go_sem]) rfl ?_
    exact ⟨none, 0, 0, by rw [HP2.out], by rw [HP2.out]; exact Sl.nil, by rw [HP2.out]; exact OwnL.nil, HB_wc⟩
  have HO := Lib.hid (HOK.out (by simp [h1, h2]))
  have HVA := Lib.hid (okB_iff.1 h1).2
  clear h1 h2 HBAD HOK
  obtain ⟨W1, hW1, hB1, hZ1, hb1⟩ := boxes1 wc [.slice none 0 0] 35
  obtain ⟨NO, hNO⟩ : ∃ N, wc.heap.size = N := ⟨_, rfl⟩
  rw [hNO] at hb1 hZ1
  have H_o := Lib.hid hb1
  have hlt_i := H_i.out.lt
  rw [hNO] at hlt_i
  have HB_W1 : Below w.heap.size w W1 := after0 HB_wc hB1
  replace H_n := Lib.hid (H_n.out.below hB1)
  replace H_m := Lib.hid (H_m.out.below hB1)
  replace H_i := Lib.hid (H_i.out.below hB1)
  replace HSA := Lib.hid (HSA.out.below hB1)
  replace HSB := Lib.hid (HSB.out.below hB1)
  clear hb1 hB1
  obtain ⟨q_n_0, q_n_1⟩ := H_n.out.c2
  go_wp2_with fail
  refine (marks_any _ _ _ _ _ _ _ _).mono ?_
  rintro e wb ⟨rfl, hwb⟩
  obtain ⟨NB, hNB⟩ : ∃ NB, W1.heap.size = NB := ⟨_, rfl⟩
  have HN2 : Hid (Box wb NB 24 [.int .i64 oa, .slice aa na ca]) := by rw [hwb, ← hNB]; exact (Box.new W1 [.int .i64 oa, .slice aa na ca] 24).alloc _
  have HF2 : Hid (Box wb (NB + 1) 49 [.func (.func 44) #[] #[.pointer (some ⟨w.heap.size + 1, 0, none⟩), .pointer (some ⟨w.heap.size + 1 + 1, 0, none⟩)]]) := by
    rw [hwb, ← hNB]
    have := Box.new (W1.alloc (.cells #[.int .i64 oa, .slice aa na ca] 24)) [.func (.func 44) #[] #[.pointer (some ⟨w.heap.size + 1, 0, none⟩), .pointer (some ⟨w.heap.size + 1 + 1, 0, none⟩)]] 49
    rwa [World.size_alloc] at this
  have hb : Below W1.heap.size W1 wb := hwb ▸ grew2 (Below.refl _ _)
  have HB_wb : Below w.heap.size w wb := after0 HB_W1 hb
  have H_o2 := Lib.hid (H_o.out.below hb)
  have H_m2 := Lib.hid (H_m.out.below hb)
  have H_i2 : Hid (Box wb (w.heap.size + 1 + 1) 57 [.func (.func g) #[] #[]]) := H_i.out.below hb
  have HSA2 := Lib.hid (HSA.out.below hb)
  have HSB2 := Lib.hid (HSB.out.below hb)
  have hsz : wb.heap.size = NB + 2 := by rw [hwb]; simp [hNB]
  have HZB := Lib.hid hsz
  obtain ⟨R, hR⟩ : ∃ R, w.heap.size = R := ⟨_, rfl⟩
  have HRW : Hid (w.heap.size = R) := hR
  have HRN : Hid (R + 2 < NO ∧ NB = NO + 1) := ⟨by omega, by omega⟩
  rw [hNB]
  rw [hR] at H_m2 H_i2 HF2 HLA HLB ⊢
  clear hwb hNB hZ1 hW1 hNO q_n_0 q_n_1 q_m_0 q_m_1 q_i_0 H_n H_m H_i H_o HSA HSB hb hR HB_W1 HB_W0 hlt_i hsz hb_wa HB_wa hb_wc HB_wc
  go_wp2_with fail
  have hlt : ∀ x ∈ NB :: (NB + 1) :: (R + 1) :: (R + 1 + 1) :: (sbs aa a ++ sbs ab b), x < wb.heap.size ∧ x ≠ NO := by
    intro x hx
    have h1 := HRN.out
    have h2 := HZB.out
    rcases List.mem_cons.1 hx with rfl | hx
    · omega
    rcases List.mem_cons.1 hx with rfl | hx
    · omega
    rcases List.mem_cons.1 hx with rfl | hx
    · omega
    rcases List.mem_cons.1 hx with rfl | hx
    · omega
    rcases List.mem_append.1 hx with hx | hx
    · have := HLA.out x hx; omega
    · have := HLB.out x hx; omega
  have HLT := Lib.hid hlt
  clear hlt
  refine (wpIn_wide (n := 10)).1 ?_
  refine wpIn_rangeFunc_ownH rfl (by omega) (gf := 46) (lb := #[.pointer (some ⟨NB, 0, none⟩), .pointer (some ⟨NB + 1, 0, none⟩)]) rfl trivial enters_marks1
    (marks_stops NB (NB + 1) 24 49 oa aa na ca a 44 #[] #[.pointer (some ⟨R + 1, 0, none⟩), .pointer (some ⟨R + 1 + 1, 0, none⟩)] (fun m => is m (trans b m) (found (trans b m))) (NB :: (NB + 1) :: (R + 1) :: (R + 1 + 1) :: (sbs aa a ++ sbs ab b)) wb
      (fun W' hW' x _ => symbols1_any g is HG.out eg x.sy x.kd x.cl (R + 1) (R + 1 + 1) 24 57 ob ab nb cb b W' (hW'.box (by simp) H_m2.out) (hW'.box (by simp) H_i2.out) (sl_heap HSB2.out (fun a' ha hne => hW' _ (by simp [sbs_mem a' ha hne])))) enters_symbols1 HN2.out HF2.out (by simp) (by simp) (fun x hx => (HLT.out x hx).1) HSA2.out (fun a' ha hne => by simp [sbs_mem a' ha hne])) same_t
    (same_b (fun x hx => (HLT.out x hx).1)) (Below.refl _ _) (fun _ => rfl)
    (fun pre W => ∃ v, Box W NO 35 [v] ∧ OwnL W (NB + 2) 3 1 cI v (pre.map Mk.sy) ∧ Below w.heap.size w W ∧ wb.heap.size ≤ W.heap.size)
    (fun _ _ _ => False)
    (fun s X Y row hs hg hr => by
      obtain ⟨v, b1, o1, hb, hz⟩ := hs
      exact ⟨v, box_own _ NO _ (fun (_ : Unit) => _) () X Y row b1 hg hr, o1.grown hg (fun r h => (hr r h).2), ownFrom_below (β := Unit) (Nat.le_refl _) HB_wb.size () X Y row hb hg hr, Nat.le_trans hz hg.size⟩)
    (fun _ _ _ _ _ hs _ _ => hs)
    ⟨_, H_o2.out, OwnL.nil, HB_wb, Nat.le_refl _⟩
    (fun x a' W => ∃ Bx, Box W Bx 29 [.int .i64 x.sy, .int .i64 x.kd, .int .i64 x.cl] ∧ wb.heap.size ≤ Bx ∧ a' = {
      tmps := #[.agg #[.int .i64 oa, .slice aa na ca], .agg #[.int .i64 ob, .slice ab nb cb], .func (.func g) #[] #[], .pointer (some ⟨R, 0, none⟩), .pointer (some ⟨R + 1, 0, none⟩), .pointer (some ⟨R + 1 + 1, 0, none⟩), .slice none 0 0,
        .int .i64 0, .pointer (some ⟨NO, 0, none⟩), .pointer (some ⟨Bx, 0, none⟩), .agg #[.int .i64 oa, .slice aa na ca], .bool true, .bool false, .bool false, .agg #[.int .i64 ob, .slice ab nb cb], .bool true, .bool false, .bool false,
        .agg #[.int .i64 oa, .slice aa na ca], .func (.func 44) #[] #[.pointer (some ⟨R + 1, 0, none⟩), .pointer (some ⟨R + 1 + 1, 0, none⟩)], .func (.func 46) #[] #[.pointer (some ⟨NB, 0, none⟩), .pointer (some ⟨NB + 1, 0, none⟩)],
        .agg #[.int .i64 x.sy, .int .i64 x.kd, .int .i64 x.cl], undef, undef, undef, undef, undef, undef], defers := [] })
    (fun x a' _ X Y row hs hg hr => by
      obtain ⟨Bx, b1, hl, e⟩ := hs
      exact ⟨Bx, box_own _ Bx _ (fun (_ : Unit) => _) () X Y row b1 hg hr, hl, e⟩)
    ?assign ?body ?done ?stop
  case assign =>
    rintro l' pre x W K ⟨v, b1, o1, hb, hz⟩ hK
    dsimp only [eMs]
    gi_wp2
    refine hK _ _ ((KeepsOthers.alloc _ _).from _) ?_ ⟨v, b1.alloc _, o1.alloc _, grew1 hb, by simp; omega⟩ ⟨W.heap.size, Box.new W [.int .i64 x.sy, .int .i64 x.kd, .int .i64 x.cl] _, hz, rfl⟩
    exact Same.alloc _ (fun b hb' => Nat.lt_of_lt_of_le (HLT.out b hb').1 hz)
  case body =>
    rintro l' pre x a' W hl _ ⟨v, b1, o1, hb, hz⟩ ⟨Bx, bX, hBx, rfl⟩ hlt
    obtain ⟨x1, x2, x3⟩ := x
    obtain ⟨k0, k1, k2⟩ := bX.c3
    dsimp only at k0 k1 k2
    have r0 := b1.c1
    have hlen : pre.length ≤ 100 := by have := HVA.out.len; omega
    have HLEN := Lib.hid hlen
    obtain ⟨i0, hi, hz0, hz1, hz2⟩ := info_parts info_int
    have HOX := Lib.hid (o1.alloc (.cells #[.int .i64 x1] 3))
    have HSX := Lib.hid (Sl.one (x := x1) cI_len (Box.new W (cI x1) 3))
    have hsz : NB + 2 ≤ (W.alloc (.cells #[.int .i64 x1] 3)).heap.size := by have := HZB.out; simp; omega
    have HBO := Lib.hid b1
    have HOO := Lib.hid o1
    have HHB := Lib.hid hb
    have HHZ := Lib.hid hz
    clear b1 o1 hb hz bX hlen hlt
    gi_wp2_with (gi_at_builtin; refine wpListIn_append_sl rfl _ _ 35 rfl (NB + 2) 3 i0 _ 1 8 Try.underlying35 hi hz0 hz1 hz2 rfl (by decide) cI_len cI_one v (pre.map Mk.sy) rfl HOX.out ⟨W.heap.size, 0, none⟩ 1 1 [x1] rfl HSX.out (by have := HLEN.out; unfold maxLen; simp; omega) (by have := HLEN.out; simp; omega) hsz ?_)
    rintro v' W3 ho3 hg3 hgr
    obtain ⟨ao3, cap3, rfl, _⟩ := ho3.sl cI_len
    rw [show (pre.map Mk.sy ++ [x1]).length = pre.length + 1 by simp] at ho3 ⊢
    have hN := HRN.out
    have hROW := HOX.out.row
    have b3 := (HBO.out.alloc (.cells #[.int .i64 x1] 3)).grown hgr (fun e => by have := (hROW NO e.symm).1; omega)
    have HB3 := Lib.hid b3
    have HG3 := Lib.hid hg3
    have HGR := Lib.hid hgr
    have HO3 := Lib.hid ho3
    have HROW := Lib.hid hROW
    have f3 := b3.frozen
    have c3 := b3.c1
    clear b3 hg3 hgr ho3 hROW hN k0 k1 k2 r0 hi hz0 hz1 hz2
    gi_wp2
    have hN := HRN.out
    have hZ := HZB.out
    have hW := HHZ.out
    have hRW := HRW.out
    refine ⟨(((KeepsOthers.alloc _ _).trans (KeepsOthers.of_grownBy HGR.out (fun j o hj ho => ?_))).trans (KeepsOthers.setCell _ _ _)).from _, ?_, _, HB3.out.set 0 _, ?_, ?_, ?_⟩
    · obtain ⟨_, _, o', ho', hc⟩ := HROW.out j hj
      rw [ho'] at ho; cases ho; exact hc
    · refine Same.setCell (Same.grown (Same.alloc _ (fun q hq => by have := (HLT.out q hq).1; omega)) HGR.out (fun q hq => by have := (HLT.out q hq).1; simp; omega) (fun q hq e => ?_)) (fun q hq => (HLT.out q hq).2)
      have h1 := (HROW.out q e.symm).1
      have h2 := (HLT.out q hq).1
      omega
    · rw [List.map_append]; exact HO3.out.setCell (b := NO) (j := 0) (by omega)
    · exact ((grew1 HHB.out).trans (HG3.out _ (by omega))).setCell (p := ⟨NO, 0, none⟩) (by dsimp only; omega) _
    · have := HGR.out.size
      simp [World.size_setCell] at this ⊢
      omega
  case done =>
    rintro D xs W hD hS ⟨v, b1, o1, hb, hz⟩ hK
    subst hS
    generalize (a.filter fun m => is m (trans b m) (found (trans b m))).map Mk.sy = L at *
    have r0 := b1.c1
    have HBO := Lib.hid b1
    have HD : Hid (W.heap[D]? = some (.deferred (some []))) := hK
    have HDR : Hid (wb.heap.size ≤ D) := hD
    have HHB := Lib.hid hb
    clear hK hD b1 hb hz
    dsimp only [Exit.inBlock, Exit.then]
    obtain ⟨ao', cap', rfl, hsl⟩ := o1.sl cI_len
    have HOO := Lib.hid o1
    clear o1 hsl
    go_wp2_with fail
    refine marks_ret1 (v := .tuple #[.slice ao' L.length cap', .int .i64 0]) HD.out rfl (by simp [results, Try.results36, go_sem]) ?_
    have hput := HOO.out.grown (grownBy_putObj' W D (.deferred none)) (fun r e => by cases e; exact ⟨_, HD.out, rfl⟩)
    obtain ⟨ao2, cap2, e2, hsl2⟩ := hput.sl cI_len
    simp only [Value.slice.injEq] at e2
    obtain ⟨rfl, _, rfl⟩ := e2
    have h1 := HB_wb.size
    have h2 := HZB.out
    have h3 := HDR.out
    exact ⟨ao', _, cap', by rw [HO.out], by rw [HO.out]; exact hsl2, by rw [HO.out]; exact hput.mono (by omega), HHB.out.trans (belowK_b (w := w) (Nat.le_refl _) W D _ _ (by omega) HD.out rfl rfl)⟩
  case stop =>
    rintro D c pre W hD _ h _
    exact h.elim
end Go.Proofs.Ytmnlkndbdcdngaa
