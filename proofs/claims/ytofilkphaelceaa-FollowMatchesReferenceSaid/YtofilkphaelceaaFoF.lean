/-
  Walks of the layer 'follow': Clone, Exchanges.
-/
import Derived.Test.YtofilkphaelceaaFoE
import Derived.Test.YtofilkphaelceaaFoX
import Derived.Test.YtofilkphaelceaaCls
set_option linter.unusedVariables false
namespace Go.Proofs.Ytofilkphaelceaa
open Go Go.RowKit Fo Sk Go.Sort

theorem Box.low {w w' : World} {B b T : Nat} {cs : List Value} (h : Box w b T cs) (hb : Below B w w') (hlt : b < B) : Box w' b T cs := (hb.block b hlt).trans h

set_option maxHeartbeats 1000000 in
theorem clone_any (ao : Option Addr) (n cap : Nat) (l : List Int) (w : World) (hs : Sl w 1 cI ao n cap l) (hn : n ≤ 1000) :
    Calls Try.prog 50 #[.slice ao n cap] w fun e w' => ∃ v, e = .returned v ∧ OwnL w' w.heap.size 3 1 cI v l ∧ Below w.heap.size w w' := by
  obtain rfl := hs.len
  have hle := hs.le
  have hmax := hs.max
  have hnone := hs.none
  obtain ⟨i0, hi, hz0, hz1, hz2⟩ := info_parts info_int
  go_enter Try.func50, Try.ntmps50
  have heq := slice_eq_nil (P := Try.prog) Try.underlying23 ao l.length cap
  cases ao with
  | none =>
    obtain rfl := hnone rfl
    have h0 : l = [] := List.eq_nil_of_length_eq_zero (by omega)
    subst h0
    dsimp only [List.length_nil, Option.isNone] at *
    go_wp2_with fail
    go_ret
    exact ⟨_, rfl, OwnL.nil, Below.refl _ _⟩
  | some a =>
    dsimp only [Option.isNone] at heq
    have hb1 : Below w.heap.size w (w.alloc (.cells #[] 3)) := grew1 (Below.refl _ _)
    have HS := Lib.hid (hs.below hb1)
    have HO := Lib.hid (OwnL.made (e := 3) (size := 1) (enc := cI) (Nat.le_refl w.heap.size))
    go_wp2_with (at_builtin; refine wpList_append_sl rfl _ _ 23 rfl w.heap.size 3 i0 _ 1 8 Try.underlying23 hi hz0 hz1 hz2 rfl (by decide) cI_len cI_one _ [] rfl HO.out (some a) l.length cap l rfl HS.out (by unfold maxLen; simp; omega) (by simp; omega) (by simp) ?_)
    rintro v' w' ho hg _
    have hb2 := hg _ (Nat.le_refl _)
    go_wp2
    go_ret
    exact ⟨v', rfl, ho, hb1.trans hb2⟩

theorem swp_cells {cur : List Int} {rest : List Value} {k : Nat} (hk : k + 1 < cur.length) :
    ((cur.map (Value.int .i64) ++ rest).set k (.int .i64 cur[k + 1])).set (k + 1) (.int .i64 cur[k]) = (swp k cur).map (Value.int .i64) ++ rest := by
  rw [← swapAt_eq k cur hk]
  unfold swapAt
  rw [List.getD_eq_getElem?_getD, List.getD_eq_getElem?_getD, List.getElem?_eq_getElem hk, List.getElem?_eq_getElem (by omega)]
  rw [List.set_append_left _ _ (by simp; omega), List.set_append_left _ _ (by simp; omega)]
  simp [List.map_set]

theorem flat_cI : ∀ l : List Int, l.flatMap cI = l.map (Value.int .i64)
  | [] => rfl
  | x :: l => by rw [List.flatMap_cons, flat_cI l]; rfl
/-- what an exchange of neighbours leaves -/
def Exched (w : World) (B BL g BO base len cap : Nat) (rest : List Value) (cur out : List Int) (k : Nat) (e : Ending) (w' : World) : Prop :=
  e = .returned (.tuple #[]) ∧ ∃ v', Box w' BL 23 [.slice (some ⟨g, 0, none⟩) len cap] ∧ Box w' g 3 ((swp k cur).map (Value.int .i64) ++ rest) ∧ Box w' BO 23 [v'] ∧ OwnL w' base 3 1 cI v' (out ++ [(k : Int)]) ∧ Below B w w' ∧ w.heap.size ≤ w'.heap.size

set_option maxRecDepth 100000 in
set_option maxHeartbeats 4000000 in
theorem exch1_any (B BL g BO base len cap k : Nat) (vo : Value) (rest : List Value) (cur out : List Int) (w : World) (hl : Box w BL 23 [.slice (some ⟨g, 0, none⟩) len cap]) (hg : Box w g 3 (cur.map (Value.int .i64) ++ rest)) (ho : Box w BO 23 [vo])
    (how : OwnL w base 3 1 cI vo out) (hk : k + 1 < cur.length) (hlen : cur.length = len) (hl200 : len ≤ 200) (hout : out.length ≤ 40000) (hb : B ≤ BL ∧ B ≤ BO ∧ B ≤ g ∧ BL < base ∧ BO < base ∧ g < base ∧ BL ≠ BO ∧ g ≠ BL ∧ g ≠ BO) (hbase : base ≤ w.heap.size) :
    Calls Try.prog 51 #[.int .i64 k, .pointer (some ⟨BL, 0, none⟩), .pointer (some ⟨BO, 0, none⟩)] w (Exched w B BL g BO base len cap rest cur out k) := by
  obtain ⟨h1, h2, h3, h4, h5, h6, h7, h8, h9⟩ := hb
  obtain ⟨i0, hi, hz0, hz1, hz2⟩ := info_parts info_int
  have HI := Lib.hid hi
  have HZ0 := Lib.hid hz0
  have HZ1 := Lib.hid hz1
  have HZ2 := Lib.hid hz2
  have hS := swp_cells (rest := rest) hk
  have e_0 : (cur.map (Value.int .i64) ++ rest)[k]? = some (.int .i64 cur[k]) := by
    rw [List.getElem?_append_left (by simp; omega), List.getElem?_map, List.getElem?_eq_getElem (by omega)]; rfl
  have e_1 : (cur.map (Value.int .i64) ++ rest)[k + 1]? = some (.int .i64 cur[k + 1]) := by
    rw [List.getElem?_append_left (by simp; omega), List.getElem?_map, List.getElem?_eq_getElem hk]; rfl
  obtain ⟨W, hW⟩ : ∃ W, w.drew = W := ⟨_, rfl⟩
  have HBW : Below w.heap.size w W := hW ▸ (Below.refl _ _).drew
  have hWs : W.heap.size = w.heap.size := by rw [← hW]; rfl
  have H_l := Lib.hid (hl.below HBW)
  have H_o := Lib.hid (ho.below HBW)
  have H_g := Lib.hid (hg.below HBW)
  have HO := Lib.hid (how.below HBW)
  have q_l_0 := H_l.out.c1
  have g_0 := H_g.out.cell e_0
  have g_1 := H_g.out.cell e_1
  have fg := H_g.out.frozen
  have HSW := Lib.hid hS
  generalize cur[k] = x at *
  generalize cur[k + 1] = y at *
  have hkl : (k : Int) + 1 < (len : Int) := by omega
  clear hl hg ho how hi hz0 hz1 hz2 e_0 e_1 hS
  go_enter Try.func51, Try.ntmps51
  go_wp2_with fail
  have y_l : ∀ p : Wc (fun W => W.cell? ⟨BL, 0, none⟩ = some (.slice (some ⟨g, 0, none⟩) len cap)), p.w.cell? ⟨BL, 0, none⟩ = some (.slice (some ⟨g, 0, none⟩) len cap) := fun p => p.h
  have y_n : Nonempty (Wc (fun W => W.cell? ⟨BL, 0, none⟩ = some (.slice (some ⟨g, 0, none⟩) len cap))) := ⟨⟨W, q_l_0⟩⟩
  clear q_l_0
  refine wp_region_plan (C := fun w' => ∃ p : Wc (fun W => W.cell? ⟨BL, 0, none⟩ = some (.slice (some ⟨g, 0, none⟩) len cap)), w' = p.w) (.q 0 (.q 1 (.q 2 (.q 3 (.q 4 (.q 5 (.q 6 (.q 7 (.q 8 (.q 10 (.q 11 (.q 12 (.two 9 (.e 13 (.q 14 (.e 15 (.q 16 (.e 17 (.done)))))) 13 (.e 9 (.q 14 (.e 15 (.q 16 (.e 17 (.done))))))))))))))))))) 18 (by kernel_rfl) (by kernel_rfl) ⟨⟨_, ?_⟩, rfl⟩ ?_
  · exact (hW ▸ H_l.out.c1 : _)
  repeat (any_goals (first | (go_big_quiet_skip; refine wpQuiet_nil ?_) | (go_big_quiet_want; go_big_quiet_op; go_big_quiet_on; refine wpQuiet_nil ?_) | ((with_reducible apply q_split); exact rfl; intro q hq; cases q <;> (rw [hq]; (try first | replace hq := bnot_t hq | replace hq := bnot_f hq); (try first | replace hq := of_decide_eq_true hq | replace hq := of_decide_eq_false hq | replace hq := eq_of_beq hq); (try first | replace hq := Int.not_lt.1 hq | replace hq := Int.not_le.1 hq | replace hq := Nat.not_lt.1 hq | replace hq := Nat.not_le.1 hq); try (exfalso; omega))) | (refine plan_q rfl rfl ?_)))
  rw [show { heap := w.heap, tape := w.tape, drawn := w.drawn + 1, os := w.os, output := w.output } = W from hW]
  have c_1 : (W.setCell ⟨g, k, none⟩ (.int .i64 y)).cell? ⟨BL, 0, none⟩ = some (.slice (some ⟨g, 0, none⟩) len cap) := (H_l.out.other (fun e => h8 e.symm)).c1
  have c_2 : ((W.setCell ⟨g, k, none⟩ (.int .i64 y)).setCell ⟨g, k + 1, none⟩ (.int .i64 x)).cell? ⟨BL, 0, none⟩ = some (.slice (some ⟨g, 0, none⟩) len cap) := ((H_l.out.other (fun e => h8 e.symm)).other (fun e => h8 e.symm)).c1
  have HC1 := Lib.hid c_1
  have HC2 := Lib.hid c_2
  have HC0 := Lib.hid H_l.out.c1
  clear c_1 c_2
  obtain ⟨W2, hW2⟩ : ∃ W2, (W.setCell ⟨g, k, none⟩ (.int .i64 y)).setCell ⟨g, k + 1, none⟩ (.int .i64 x) = W2 := ⟨_, rfl⟩
  have H_l2 : Hid (Box W2 BL 23 [.slice (some ⟨g, 0, none⟩) len cap]) := hW2 ▸ (H_l.out.other (fun e => h8 e.symm)).other (fun e => h8 e.symm)
  have H_o2 : Hid (Box W2 BO 23 [vo]) := hW2 ▸ (H_o.out.other (fun e => h9 e.symm)).other (fun e => h9 e.symm)
  have H_g2 : Hid (Box W2 g 3 ((swp k cur).map (Value.int .i64) ++ rest)) := hW2 ▸ HSW.out ▸ (H_g.out.set k (.int .i64 y)).set (k + 1) (.int .i64 x)
  have HO2 : Hid (OwnL W2 base 3 1 cI vo out) := hW2 ▸ (HO.out.setCell h6).setCell h6
  have HB2 : Below B w W2 := hW2 ▸ (((HBW.mono (by omega)).setCell (p := ⟨g, k, none⟩) h3 _).setCell (p := ⟨g, k + 1, none⟩) h3 _)
  have hs2 : w.heap.size ≤ W2.heap.size := HB2.size
  have HW2 := Lib.hid hW2
  clear hW2
  refine plan_two rfl rfl ?_ ?_
  all_goals
    go_wp2_with fail
    refine MixPost.intro ⟨⟨W, HC0.out⟩, rfl⟩ ?_
    repeat (any_goals (first | (go_big_quiet_skip; refine wpQuiet_nil ?_) | (go_big_quiet_want; go_big_quiet_op; go_big_quiet_on; refine wpQuiet_nil ?_) | ((with_reducible apply q_split); exact rfl; intro q hq; cases q <;> (rw [hq]; (try first | replace hq := bnot_t hq | replace hq := bnot_f hq); (try first | replace hq := of_decide_eq_true hq | replace hq := of_decide_eq_false hq | replace hq := eq_of_beq hq); (try first | replace hq := Int.not_lt.1 hq | replace hq := Int.not_le.1 hq | replace hq := Nat.not_lt.1 hq | replace hq := Nat.not_le.1 hq); try (exfalso; omega))) | (refine plan_q rfl rfl ?_)))
    refine plan_e rfl ?_
    go_wp2_with fail
    refine MixPost.intro ⟨⟨W, HC0.out⟩, rfl⟩ ?_
    repeat (any_goals (first | (go_big_quiet_skip; refine wpQuiet_nil ?_) | (go_big_quiet_want; go_big_quiet_op; go_big_quiet_on; refine wpQuiet_nil ?_) | ((with_reducible apply q_split); exact rfl; intro q hq; cases q <;> (rw [hq]; (try first | replace hq := bnot_t hq | replace hq := bnot_f hq); (try first | replace hq := of_decide_eq_true hq | replace hq := of_decide_eq_false hq | replace hq := eq_of_beq hq); (try first | replace hq := Int.not_lt.1 hq | replace hq := Int.not_le.1 hq | replace hq := Nat.not_lt.1 hq | replace hq := Nat.not_le.1 hq); try (exfalso; omega))) | (refine plan_q rfl rfl ?_)))
    refine plan_e rfl ?_
    go_wp2_with fail
    refine MixPost.intro ⟨⟨_, HC1.out⟩, rfl⟩ ?_
    repeat (any_goals (first | (go_big_quiet_skip; refine wpQuiet_nil ?_) | (go_big_quiet_want; go_big_quiet_op; go_big_quiet_on; refine wpQuiet_nil ?_) | ((with_reducible apply q_split); exact rfl; intro q hq; cases q <;> (rw [hq]; (try first | replace hq := bnot_t hq | replace hq := bnot_f hq); (try first | replace hq := of_decide_eq_true hq | replace hq := of_decide_eq_false hq | replace hq := eq_of_beq hq); (try first | replace hq := Int.not_lt.1 hq | replace hq := Int.not_le.1 hq | replace hq := Nat.not_lt.1 hq | replace hq := Nat.not_le.1 hq); try (exfalso; omega))) | (refine plan_q rfl rfl ?_)))
    refine plan_e rfl ?_
    go_wp2_with fail
    refine MixPost.intro ⟨⟨_, HC2.out⟩, rfl⟩ ?_
    clear y_l y_n
    rw [HW2.out]
    clear HW2 HC0 HC1 HC2 hW fg g_0 g_1
    have q_o := H_o2.out.c1
    have HOX := Lib.hid (HO2.out.alloc (.cells #[.int .i64 (k : Int)] 3))
    have HSX : Hid (Sl (W2.alloc (.cells #[.int .i64 (k : Int)] 3)) 1 cI (some ⟨W2.heap.size, 0, none⟩) 1 1 [(k : Int)]) := Sl.one (x := (k : Int)) cI_len (Box.new W2 (cI (k : Int)) 3)
    have hsz : base ≤ (W2.alloc (.cells #[.int .i64 (k : Int)] 3)).heap.size := by simp; omega
    refine plan_done ?_
    try simp only [List.drop_succ_cons, List.drop_zero]
    go_wp2_with fail
    refine NoPanic.normal ?_
    go_wp2_with (at_builtin; refine wpList_append_sl rfl _ _ 23 rfl base 3 i0 _ 1 8 Try.underlying23 HI.out HZ0.out HZ1.out HZ2.out rfl (by decide) cI_len cI_one _ out rfl HOX.out (some ⟨W2.heap.size, 0, none⟩) 1 1 [(k : Int)] rfl HSX.out (by unfold maxLen; omega) (by omega) hsz ?_)
    rintro v' w6 ho6 hg6 hgr6
    have hb6 := hg6 _ (Nat.le_refl _)
    have HB_6 : Below B w w6 := (HB2.alloc (by omega) _).trans (hb6.mono (by omega))
    obtain ⟨ao6, cap6, rfl, _⟩ := ho6.sl cI_len
    rw [show (out ++ [(k : Int)]).length = out.length + 1 by simp] at ho6 ⊢
    have H_l6 := Lib.hid (Box.low (H_l2.out.alloc (.cells #[.int .i64 (k : Int)] 3)) hb6 h4)
    have H_o6 := Lib.hid (Box.low (H_o2.out.alloc (.cells #[.int .i64 (k : Int)] 3)) hb6 h5)
    have H_g6 := Lib.hid (Box.low (H_g2.out.alloc (.cells #[.int .i64 (k : Int)] 3)) hb6 h6)
    have HO6 := Lib.hid ho6
    have hs6 : w.heap.size ≤ w6.heap.size := HB_6.size
    have q_6 := H_o6.out.c1
    have f_6 := H_o6.out.frozen
    clear q_o HOX HSX hsz hg6 hgr6 ho6 hb6
    go_wp2_with fail
    refine bodyPost_ret (v := .tuple #[]) (by simp [results, Try.results51, go_sem]) rfl ?_
    refine ⟨rfl, _, H_l6.out.other h7, H_g6.out.other h9, H_o6.out.set 0 _, ?_, HB_6.setCell (p := ⟨BO, 0, none⟩) h2 _, by simp; omega⟩
    exact HO6.out.setCell h5

/-- what the exchanging still has to do, read off the world -/
def exLeft (w : World) (g len : Nat) (i : Nat) : Nat :=
  match w.heap[g]? with
  | some (.cells arr _ _) => 2 * inv ((arr.toList.take len).map intOf) + (len - i)
  | _ => 0
theorem exLeft_eq {w : World} {g len i : Nat} {cur : List Int} {rest : List Value} (h : Box w g 3 (cur.map (Value.int .i64) ++ rest)) (hl : cur.length = len) : exLeft w g len i = 2 * inv cur + (len - i) := by
  unfold exLeft
  unfold Box at h
  rw [h]
  dsimp only
  rw [List.take_left' (by simpa using hl), List.map_map]
  have : (intOf ∘ Value.int .i64) = id := by funext x; rfl
  rw [this, List.map_id]
theorem exchR_err {l : List St} {o : List Int} {x e : Int} (h : permR l o = (x, e)) (he : e ≠ 0) : exchR l o = ([], e) := by unfold exchR; rw [h, if_pos he]
theorem exchR_no {l : List St} {o : List Int} {x : Int} (h : permR l o = (x, 0)) (hx : 0 ≤ x) : exchR l o = ([], 14) := by unfold exchR; rw [h, if_neg (by simp), if_pos hx]
theorem exchR_ok {l : List St} {o : List Int} {x : Int} (h : permR l o = (x, 0)) (hx : x < 0) : exchR l o = (exchF o, 0) ∧ o.Nodup ∧ o.length ≤ 200 := by
  refine ⟨by unfold exchR; rw [h, if_neg (by simp), if_neg (by dsimp only; omega)], ?_⟩
  unfold permR at h
  split at h
  · rename_i hc
    simp only [Bool.and_eq_true, decide_eq_true_eq] at hc
    simp only [Prod.mk.injEq, and_true] at h
    refine ⟨perm_nodup (l := l) ?_, hc.2⟩
    unfold permF at h ⊢
    split at h
    · omega
    · rename_i hn; rfl
  · simp at h


set_option maxRecDepth 100000 in
set_option maxHeartbeats 8000000 in
theorem Exchanges_any (ao : Option Addr) (n cap : Nat) (l : List St) (bo : Option Addr) (m capb : Nat) (o : List Int) (w : World) (hs : SlS w ao n cap l) (hd : Sl w 1 cI bo m capb o) :
    Calls Try.prog 29 #[.slice ao n cap, .slice bo m capb] w (IntsE w (exchR l o)) := by
  obtain rfl := hd.len
  have HS := Lib.hid hs
  have HD := Lib.hid hd
  have HB_w : Below w.heap.size w w := Below.refl _ _
  obtain ⟨⟨x, q⟩, hp⟩ : ∃ p, permR l o = p := ⟨_, rfl⟩
  have HERR := Lib.hid (@exchR_err l o x q hp)
  have HNO := Lib.hid (fun hq : q = 0 => @exchR_no l o x (by rw [hp, hq]))
  have HOK := Lib.hid (fun hq : q = 0 => @exchR_ok l o x (by rw [hp, hq]))
  have HPM := Lib.hid (show Calls Try.prog 20 #[.slice ao n cap, .slice bo o.length capb] w (Ret w (eI (x, q))) by have := Permitted_any ao n cap l bo o.length capb o w hs hd; rwa [hp] at this)
  clear hs hd hp
  generalize exchR l o = p at *
  go_enter Try.func29, Try.ntmps29
  go_wp2_with fail
  refine (HPM.out).mono ?_
  rintro e wa ⟨rfl, hb_wa⟩
  have HB_wa : Below w.heap.size w wa := by first | exact after0 HB_w hb_wa | exact after1 HB_w hb_wa | exact after2 HB_w hb_wa | exact after3 HB_w hb_wa | exact after4 HB_w hb_wa | exact after5 HB_w hb_wa
  replace HD := Lib.hid (HD.out.below hb_wa)
  by_cases hq : q = 0
  case neg =>
    have HP := Lib.hid (HERR.out hq)
    have hq1 : (q != 0) = true := bne_iff_ne.2 hq
    clear hq
    go_wp2_with fail
    go_ret2
    exact ⟨none, 0, 0, by rw [HP.out]; rfl, by rw [HP.out]; exact Sl.nil, HB_wa⟩
  by_cases hx : 0 ≤ x
  · have HP := Lib.hid (HNO.out hq hx)
    subst hq
    go_wp2_with fail
    go_ret2
    exact ⟨none, 0, 0, by rw [HP.out]; rfl, by rw [HP.out]; exact Sl.nil, HB_wa⟩
  obtain ⟨hp1, hnd, hl200⟩ := HOK.out hq (by omega)
  have HP := Lib.hid hp1
  have HND := Lib.hid hnd
  subst hq
  replace hx := Int.not_le.1 hx
  clear hp1 hnd HERR HNO HOK HPM
  go_wp2_with fail
  refine (clone_any _ _ _ o _ HD.out (by omega)).mono ?_
  rintro e wb ⟨v, rfl, ho, hb_wb⟩
  have HB_wb := after0 HB_wa hb_wb
  obtain ⟨co, cc, rfl, hsl⟩ := ho.sl cI_len
  have hccap := hsl.max
  have hcle := hsl.le
  unfold maxLen at hccap
  have hwb := HB_wb.size
  have hwa := HB_wa.size
  have hab := hb_wb.size
  by_cases h2 : o.length ≤ 1
  · have HE := Lib.hid (show exchF o = [] from ((ExSt.start HND.out).end_ (by omega)).symm)
    have h2i : (o.length : Int) ≤ 1 := by omega
    obtain ⟨W1, hW1, HB1, hZ1, hl1, ho1⟩ := boxes2 wb [.slice co o.length cc] [.slice none 0 0] 23 23
    have H_l := Lib.hid hl1
    have H_o := Lib.hid ho1
    have HB_W1 : Below w.heap.size w W1 := after0 HB_wb HB1
    clear hl1 ho1 HB1 ho hsl hb_wb hb_wa
    have q_l_0 := H_l.out.c1
    have q_o_0 := H_o.out.c1
    go_wp2_with fail
    refine wp_loop_rounds 1 ?_
    rw [rounds_succ]
    go_wp2_with fail
    all_goals try (exfalso; omega)
    go_ret2
    exact ⟨none, 0, 0, by rw [HP.out]; rfl, by rw [HP.out]; dsimp only; rw [HE.out]; exact Sl.nil, HB_W1⟩
  have hne : o ≠ [] := by intro e; subst e; simp at h2
  have hgx : ∃ g arr, co = some ⟨g, 0, none⟩ ∧ wa.heap.size ≤ g ∧ Box wb g 3 (o.map (Value.int .i64) ++ arr) := by
    rcases ho.2 with ⟨hn, h0⟩ | ⟨g, cap, cur, he, hbg, hgg, _, _, _, htake⟩
    · omega
    · simp only [Value.slice.injEq] at he
      refine ⟨g, cur.toList.drop o.length, he.1, hbg, ?_⟩
      unfold Box
      rw [hgg]
      have e1 : o.map (Value.int .i64) = cur.toList.take o.length := by
        rw [Nat.mul_one] at htake
        rw [htake, flat_cI]
      rw [e1, List.take_append_drop]
  obtain ⟨g, arr, rfl, hga, hgb⟩ := hgx
  have hglt := hgb.lt
  obtain ⟨W1, hW1, HB1, hZ1, hl1, ho1⟩ := boxes2 wb [.slice (some ⟨g, 0, none⟩) o.length cc] [.slice none 0 0] 23 23
  have H_l := Lib.hid hl1
  have H_o := Lib.hid ho1
  have H_g := Lib.hid (hgb.below HB1)
  have HB_W1 : Below w.heap.size w W1 := after0 HB_wb HB1
  clear hl1 ho1 HB1 ho hsl hb_wb hb_wa hgb
  obtain ⟨BL, hBL⟩ : ∃ N, wb.heap.size = N := ⟨_, rfl⟩
  rw [hBL] at H_l H_o hZ1 hglt
  go_wp2_with fail
  clear hW1
  go_loopw [11] (fun i wr => ∃ (k : Nat) (cur out : List Int) (vo : Value), i = .int .i64 k ∧ k ≤ o.length ∧ ExSt o out cur k ∧ Below w.heap.size w wr ∧ BL + 2 ≤ wr.heap.size ∧ Hid (Box wr BL 23 [.slice (some ⟨g, 0, none⟩) o.length cc]) ∧ Hid (Box wr (BL + 1) 23 [vo]) ∧ Hid (Box wr g 3 (cur.map (Value.int .i64) ++ arr)) ∧ Hid (OwnL wr (BL + 2) 3 1 cI vo out)) (fun i wr => exLeft wr g o.length (intOf i).toNat)
  case atStart => exact ⟨0, o, [], _, rfl, Nat.zero_le _, ExSt.start HND.out, HB_W1, by omega, H_l.out, H_o.out, H_g.out, OwnL.nil⟩
  case round =>
    clear H_l H_o H_g
    obtain ⟨k, cur, out, vo, rfl, hko, hex, HB_wr, hsz, H_l, H_o, H_g, HO⟩ := hrel
    have hclen : cur.length = o.length := hex.perm.length_eq
    have hob := hex.bound hl200
    have HEX := Lib.hid hex
    have HLF := Lib.hid (fun i => exLeft_eq (i := i) H_g.out hclen)
    have q_l_0 := H_l.out.c1
    by_cases hlt : k + 1 < cur.length
    · have e_0 : wr.cell? ⟨g, k, none⟩ = some (.int .i64 cur[k]) := H_g.out.cell (by rw [List.getElem?_append_left (by simp; omega), List.getElem?_map, List.getElem?_eq_getElem (by omega)]; rfl)
      have f_0 : wr.cell? ⟨g, k + 1, none⟩ = some (.int .i64 cur[k + 1]) := H_g.out.cell (by rw [List.getElem?_append_left (by simp; omega), List.getElem?_map, List.getElem?_eq_getElem hlt]; rfl)
      have hki : (k : Int) + 1 < (o.length : Int) := by omega
      have HON := Lib.hid (fun h => HEX.out.on hlt h)
      have HSW := Lib.hid (fun h => HEX.out.swap hlt h)
      have HIV := Lib.hid (fun h => inv_swp k cur hlt h)
      have HNE := Lib.hid (show cur[k] ≠ cur[k + 1] from List.pairwise_iff_getElem.1 HEX.out.nodup k (k + 1) (by omega) hlt (by omega))
      generalize cur[k] = x at *
      generalize cur[k + 1] = y at *
      clear hex
      by_cases hxy : x < y
      · have HN := Lib.hid (HON.out hxy)
        go_wp2_with fail
        have y_q_l_0 := cell_regrown q_l_0
        clear q_l_0
        have y_e_0 := cell_regrown e_0
        clear e_0
        have y_f_0 := cell_regrown f_0
        clear f_0
        refine wp_region_plan (C := fun w' => ∃ p : Regrown, w' = grow (redrawn wr p.d) p.os) (.q 0 (.q 1 (.q 2 (.q 3 (.q 4 (.q 5 (.q 6 (.q 7 (.q 8 (.q 9 (.done))))))))))) 10 (by kernel_rfl) (by kernel_rfl) (grew_drew _) ?_
        repeat (any_goals (first | (go_big_quiet_skip; refine wpQuiet_nil ?_) | (go_big_quiet_want; go_big_quiet_op; go_big_quiet_on; refine wpQuiet_nil ?_) | ((with_reducible apply q_split); exact rfl; intro q hq; cases q <;> (rw [hq]; (try first | replace hq := bnot_t hq | replace hq := bnot_f hq); (try first | replace hq := of_decide_eq_true hq | replace hq := of_decide_eq_false hq | replace hq := eq_of_beq hq); (try first | replace hq := Int.not_lt.1 hq | replace hq := Int.not_le.1 hq | replace hq := Nat.not_lt.1 hq | replace hq := Nat.not_le.1 hq); try (exfalso; omega))) | (refine plan_q rfl rfl ?_)))
        clear y_q_l_0
        clear y_e_0
        clear y_f_0
        all_goals refine plan_done ?_
        all_goals (try simp only [List.drop_succ_cons, List.drop_zero])
        all_goals (try go_wp2_with fail)
        all_goals refine NoPanic.normal ?_
        all_goals (try go_wp2_with fail)
        go_roundw
        case rel => exact ⟨k + 1, cur, out, vo, by go_num, by omega, HN.out, HB_wr.drew, by simpa using hsz, H_l.out.drew, H_o.out.drew, H_g.out.drew, HO.out.drew⟩
        case measure =>
          show exLeft wr.drew g o.length _ < exLeft wr g o.length _
          rw [exLeft_eq H_g.out.drew hclen, exLeft_eq H_g.out hclen]
          simp [intOf]; omega
      · have HN := Lib.hid (HSW.out hxy)
        have hiv := HIV.out (by have := HNE.out; omega)
        have HSWL := Lib.hid (swp_len k cur)
        replace hxy := Int.not_lt.1 hxy
        clear HON HSW HIV HNE
        rcases (by omega : (k : Int) - 1 < 0 ∨ 0 < (k : Int) - 1 ∨ (k : Int) - 1 = 0) with hk0 | hk0 | hk0
        ·
          go_wp2_with fail
          have y_q_l_0 := cell_regrown q_l_0
          clear q_l_0
          have y_e_0 := cell_regrown e_0
          clear e_0
          have y_f_0 := cell_regrown f_0
          clear f_0
          refine wp_region_plan (C := fun w' => ∃ p : Regrown, w' = grow (redrawn wr p.d) p.os) (.q 0 (.q 1 (.q 2 (.q 3 (.q 4 (.q 5 (.q 6 (.q 7 (.q 8 (.q 9 (.done))))))))))) 10 (by kernel_rfl) (by kernel_rfl) (grew_drew _) ?_
          repeat (any_goals (first | (go_big_quiet_skip; refine wpQuiet_nil ?_) | (go_big_quiet_want; go_big_quiet_op; go_big_quiet_on; refine wpQuiet_nil ?_) | ((with_reducible apply q_split); exact rfl; intro q hq; cases q <;> (rw [hq]; (try first | replace hq := bnot_t hq | replace hq := bnot_f hq); (try first | replace hq := of_decide_eq_true hq | replace hq := of_decide_eq_false hq | replace hq := eq_of_beq hq); (try first | replace hq := Int.not_lt.1 hq | replace hq := Int.not_le.1 hq | replace hq := Nat.not_lt.1 hq | replace hq := Nat.not_le.1 hq); try (exfalso; omega))) | (refine plan_q rfl rfl ?_)))
          clear y_q_l_0
          clear y_e_0
          clear y_f_0
          all_goals refine plan_done ?_
          all_goals (try simp only [List.drop_succ_cons, List.drop_zero])
          all_goals (try go_wp2_with fail)
          all_goals refine NoPanic.normal ?_
          all_goals (try go_wp2_with fail)
          refine (exch1_any w.heap.size BL g (BL + 1) (BL + 2) o.length cc k vo arr cur out _ H_l.out.drew H_g.out.drew H_o.out.drew HO.out.drew hlt hclen hl200 hob (by omega) (by simpa using hsz)).mono ?_
          rintro e w5 ⟨rfl, v', b1, b2, b3, b4, b5, b6⟩
          have B1 := Lib.hid b1
          have B2 := Lib.hid b2
          have B3 := Lib.hid b3
          have B4 := Lib.hid b4
          have HB_w5 : Below w.heap.size w w5 := HB_wr.drew.trans b5
          have hs5 : BL + 2 ≤ w5.heap.size := Nat.le_trans hsz b6
          clear b1 b2 b3 b4 b5 b6
          go_wp2_with fail
          all_goals try (exfalso; omega)
          go_roundw
          case rel => exact ⟨k - 1, swp k cur, _, v', by go_num, by omega, HN.out, HB_w5, hs5, B1.out, B3.out, B2.out, B4.out⟩
          case measure =>
            show exLeft w5 g o.length _ < exLeft wr g o.length _
            rw [exLeft_eq B2.out (by rw [HSWL.out]; exact hclen), exLeft_eq H_g.out hclen]
            simp [intOf]; omega
        ·
          go_wp2_with fail
          have y_q_l_0 := cell_regrown q_l_0
          clear q_l_0
          have y_e_0 := cell_regrown e_0
          clear e_0
          have y_f_0 := cell_regrown f_0
          clear f_0
          refine wp_region_plan (C := fun w' => ∃ p : Regrown, w' = grow (redrawn wr p.d) p.os) (.q 0 (.q 1 (.q 2 (.q 3 (.q 4 (.q 5 (.q 6 (.q 7 (.q 8 (.q 9 (.done))))))))))) 10 (by kernel_rfl) (by kernel_rfl) (grew_drew _) ?_
          repeat (any_goals (first | (go_big_quiet_skip; refine wpQuiet_nil ?_) | (go_big_quiet_want; go_big_quiet_op; go_big_quiet_on; refine wpQuiet_nil ?_) | ((with_reducible apply q_split); exact rfl; intro q hq; cases q <;> (rw [hq]; (try first | replace hq := bnot_t hq | replace hq := bnot_f hq); (try first | replace hq := of_decide_eq_true hq | replace hq := of_decide_eq_false hq | replace hq := eq_of_beq hq); (try first | replace hq := Int.not_lt.1 hq | replace hq := Int.not_le.1 hq | replace hq := Nat.not_lt.1 hq | replace hq := Nat.not_le.1 hq); try (exfalso; omega))) | (refine plan_q rfl rfl ?_)))
          clear y_q_l_0
          clear y_e_0
          clear y_f_0
          all_goals refine plan_done ?_
          all_goals (try simp only [List.drop_succ_cons, List.drop_zero])
          all_goals (try go_wp2_with fail)
          all_goals refine NoPanic.normal ?_
          all_goals (try go_wp2_with fail)
          refine (exch1_any w.heap.size BL g (BL + 1) (BL + 2) o.length cc k vo arr cur out _ H_l.out.drew H_g.out.drew H_o.out.drew HO.out.drew hlt hclen hl200 hob (by omega) (by simpa using hsz)).mono ?_
          rintro e w5 ⟨rfl, v', b1, b2, b3, b4, b5, b6⟩
          have B1 := Lib.hid b1
          have B2 := Lib.hid b2
          have B3 := Lib.hid b3
          have B4 := Lib.hid b4
          have HB_w5 : Below w.heap.size w w5 := HB_wr.drew.trans b5
          have hs5 : BL + 2 ≤ w5.heap.size := Nat.le_trans hsz b6
          clear b1 b2 b3 b4 b5 b6
          go_wp2_with fail
          all_goals try (exfalso; omega)
          go_roundw
          case rel => exact ⟨k - 1, swp k cur, _, v', by go_num, by omega, HN.out, HB_w5, hs5, B1.out, B3.out, B2.out, B4.out⟩
          case measure =>
            show exLeft w5 g o.length _ < exLeft wr g o.length _
            rw [exLeft_eq B2.out (by rw [HSWL.out]; exact hclen), exLeft_eq H_g.out hclen]
            simp [intOf]; omega
        ·
          go_wp2_with fail
          have y_q_l_0 := cell_regrown q_l_0
          clear q_l_0
          have y_e_0 := cell_regrown e_0
          clear e_0
          have y_f_0 := cell_regrown f_0
          clear f_0
          refine wp_region_plan (C := fun w' => ∃ p : Regrown, w' = grow (redrawn wr p.d) p.os) (.q 0 (.q 1 (.q 2 (.q 3 (.q 4 (.q 5 (.q 6 (.q 7 (.q 8 (.q 9 (.done))))))))))) 10 (by kernel_rfl) (by kernel_rfl) (grew_drew _) ?_
          repeat (any_goals (first | (go_big_quiet_skip; refine wpQuiet_nil ?_) | (go_big_quiet_want; go_big_quiet_op; go_big_quiet_on; refine wpQuiet_nil ?_) | ((with_reducible apply q_split); exact rfl; intro q hq; cases q <;> (rw [hq]; (try first | replace hq := bnot_t hq | replace hq := bnot_f hq); (try first | replace hq := of_decide_eq_true hq | replace hq := of_decide_eq_false hq | replace hq := eq_of_beq hq); (try first | replace hq := Int.not_lt.1 hq | replace hq := Int.not_le.1 hq | replace hq := Nat.not_lt.1 hq | replace hq := Nat.not_le.1 hq); try (exfalso; omega))) | (refine plan_q rfl rfl ?_)))
          clear y_q_l_0
          clear y_e_0
          clear y_f_0
          all_goals refine plan_done ?_
          all_goals (try simp only [List.drop_succ_cons, List.drop_zero])
          all_goals (try go_wp2_with fail)
          all_goals refine NoPanic.normal ?_
          all_goals (try go_wp2_with fail)
          refine (exch1_any w.heap.size BL g (BL + 1) (BL + 2) o.length cc k vo arr cur out _ H_l.out.drew H_g.out.drew H_o.out.drew HO.out.drew hlt hclen hl200 hob (by omega) (by simpa using hsz)).mono ?_
          rintro e w5 ⟨rfl, v', b1, b2, b3, b4, b5, b6⟩
          have B1 := Lib.hid b1
          have B2 := Lib.hid b2
          have B3 := Lib.hid b3
          have B4 := Lib.hid b4
          have HB_w5 : Below w.heap.size w w5 := HB_wr.drew.trans b5
          have hs5 : BL + 2 ≤ w5.heap.size := Nat.le_trans hsz b6
          clear b1 b2 b3 b4 b5 b6
          go_wp2_with fail
          all_goals try (exfalso; omega)
          go_roundw
          case rel => exact ⟨k - 1, swp k cur, _, v', by go_num, by omega, HN.out, HB_w5, hs5, B1.out, B3.out, B2.out, B4.out⟩
          case measure =>
            show exLeft w5 g o.length _ < exLeft wr g o.length _
            rw [exLeft_eq B2.out (by rw [HSWL.out]; exact hclen), exLeft_eq H_g.out hclen]
            simp [intOf]; omega
    · have HE := Lib.hid (HEX.out.end_ (by omega))
      have hki : ¬ (k : Int) + 1 < (o.length : Int) := by omega
      have hki2 : (o.length : Int) ≤ (k : Int) + 1 := by omega
      obtain ⟨ao6, cap6, rfl, hsl6⟩ := HO.out.sl cI_len
      have HSL6 := Lib.hid hsl6
      clear hsl6
      have q_o_0 := H_o.out.c1
      go_wp2_with fail
      all_goals try (exfalso; omega)
      go_ret2
      exact ⟨ao6, _, cap6, by rw [HP.out]; rfl, by rw [HP.out]; dsimp only; rw [← HE.out]; exact HSL6.out, HB_wr⟩
end Go.Proofs.Ytofilkphaelceaa
