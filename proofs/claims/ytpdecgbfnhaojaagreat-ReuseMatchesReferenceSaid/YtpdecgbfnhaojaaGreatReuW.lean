/-
  The walk of reuse's Wait.
-/
import Derived.Test.YtpdecgbfnhaojaaGreatReuC
set_option linter.unusedVariables false
namespace Go.Proofs.YtpdecgbfnhaojaaGreat
open Go.RowKit Nb Sk Ck Ru Go.Sort

def srt (l : List Int) : List Int := l.mergeSort fun x y => decide (x ≤ y)
theorem srt_mem {l : List Int} {x : Int} : x ∈ srt l ↔ x ∈ l := (List.mergeSort_perm l _).mem_iff
theorem srt_len (l : List Int) : (srt l).length = l.length := List.length_mergeSort l
theorem srt_sorted (l : List Int) : (srt l).Pairwise (· ≤ ·) := by
  have := List.pairwise_mergeSort (le := fun x y : Int => decide (x ≤ y)) (fun a b c h1 h2 => by simp at *; omega) (fun a b => by simp; omega) l
  exact this.imp (fun h => by simpa using h)
theorem flat_cI : ∀ l : List Int, l.flatMap cI = l.map (Value.int .i64)
  | [] => rfl
  | x :: l => by rw [List.flatMap_cons, flat_cI l]; rfl
/-- the library's sort of integers, at a slice of the call's own (XReuV proves it) -/
def SortOk : Prop := ∀ (w : World) (base : Nat) (v : Value) (ys : List Int), OwnL w base 3 1 cI v ys → ys.length ≤ 1000000 →
    Calls Tryz.prog 35 #[v] w (fun e w' => e = .returned (.tuple #[]) ∧ OwnL w' base 3 1 cI v (srt ys) ∧ w.grownBy w' v.ownBlock)
theorem own_lit {w : World} {base : Nat} (x : Int) (h : base ≤ w.heap.size) : OwnL (w.alloc (.cells #[.int .i64 x] 3)) base 3 1 cI (.slice (some ⟨w.heap.size, 0, none⟩) 1 1) [x] :=
  ⟨by simp, .inr ⟨w.heap.size, 1, #[.int .i64 x], rfl, h, by rw [heap_alloc_new], Nat.le_refl _, by simp [maxLen], by simp, by simp⟩⟩
theorem waitP_hit {l : List Us} {st kd now : Int} {es : List Int} (k : Nat) (hk : k < (now :: es).length) (h : roomy l st kd (now :: es)[k] = true) (hn : ∀ j (hj : j < (now :: es).length), j < k → roomy l st kd (now :: es)[j] = false) : waitP l st kd now es = (now :: es)[k] := by
  unfold waitP
  rw [List.find?_eq_some_iff_getElem.2 ⟨h, k, hk, rfl, fun j hj => by rw [hn j (by omega) hj]; rfl⟩]
  rfl
theorem waitP_miss {l : List Us} {st kd now : Int} {es : List Int} (hn : ∀ j (hj : j < (now :: es).length), roomy l st kd (now :: es)[j] = false) : waitP l st kd now es = 10000000 := by
  unfold waitP
  rw [List.find?_eq_none.2 (fun x hx => by obtain ⟨j, hj, rfl⟩ := List.getElem_of_mem hx; rw [hn j hj]; simp)]
  rfl


set_option maxRecDepth 100000 in
set_option maxHeartbeats 8000000 in
theorem Wait_any (hso : SortOk) (ao : Option Addr) (n cap : Nat) (l : List Us) (st kd now : Int) (w : World) (hs : Sl w 5 cU ao n cap l) : Calls Tryz.prog 13 #[.slice ao n cap, .int .i64 st, .int .i64 kd, .int .i64 now] w (Ret w (eI (waitR l st kd now))) := by
  have HSO := Lib.hid hso
  clear hso
  obtain rfl := hs.len
  have hcap := hs.max
  have hle := hs.le
  unfold maxLen at hcap
  have HS := Lib.hid hs
  have HB_w : Below w.heap.size w w := Below.refl _ _
  have HBAD := Lib.hid (@wait_bad l st kd now)
  have HERR := Lib.hid (@wait_err l st kd now)
  have HEQ := Lib.hid (@wait_eq l st kd now)
  obtain ⟨⟨rm, q⟩, hr⟩ : ∃ p, room l st kd now = p := ⟨_, rfl⟩
  rw [hr] at HERR HEQ
  dsimp only at HERR HEQ
  have HRM := Lib.hid (fun W hW => (show Calls Tryz.prog 34 #[.slice ao l.length cap, .int .i64 st, .int .i64 kd, .int .i64 now] W (Ret W (eI (rm, q))) from by have := room_any ao l.length cap l st kd now W hW; rwa [hr] at this))
  clear hs hr
  generalize waitR l st kd now = p at *
  go_enter Tryz.func13, Tryz.ntmps13
  go_wp2_with fail
  refine (asked_any _ _ _ l _ _ _ _ HS.out).mono ?_
  rintro e wa ⟨rfl, hb_wa⟩
  have HB_wa : Below w.heap.size w wa := by first | exact after0 HB_w hb_wa | exact after1 HB_w hb_wa | exact after2 HB_w hb_wa | exact after3 HB_w hb_wa | exact after4 HB_w hb_wa | exact after5 HB_w hb_wa
  replace HS := Lib.hid (show Sl wa _ _ _ _ _ _ by first | exact HS.out.below hb_wa | exact (HS.out.below (grew1 (Below.refl _ _))).below hb_wa | exact (HS.out.below (grew2 (Below.refl _ _))).below hb_wa | exact (HS.out.below (grew3 (Below.refl _ _))).below hb_wa)
  cases h1 : askedR l st kd now
  · have HP := Lib.hid (HBAD.out h1)
    clear h1
    go_wp2_with fail
    go_ret2
    exact ⟨ret_pair HP.out, HB_wa⟩
  have HAK := askedR_iff.1 h1
  have hro := rows_iff.1 HAK.1
  have hnow := tm_iff.1 HAK.2.2
  obtain ⟨hn0, hn1⟩ := hnow
  have hlen := hro.len
  have HOK := Lib.hid hro.ok
  replace HEQ := Lib.hid (HEQ.out h1)
  replace HERR := Lib.hid (HERR.out h1)
  clear h1 HAK hro HBAD
  go_wp2_with fail
  refine (HRM.out _ HS.out).mono ?_
  rintro e wb ⟨rfl, hb_wb⟩
  have HB_wb : Below w.heap.size w wb := by first | exact after0 HB_wa hb_wb | exact after1 HB_wa hb_wb | exact after2 HB_wa hb_wb | exact after3 HB_wa hb_wb | exact after4 HB_wa hb_wb | exact after5 HB_wa hb_wb
  replace HS := Lib.hid (show Sl wb _ _ _ _ _ _ by first | exact HS.out.below hb_wb | exact (HS.out.below (grew1 (Below.refl _ _))).below hb_wb | exact (HS.out.below (grew2 (Below.refl _ _))).below hb_wb | exact (HS.out.below (grew3 (Below.refl _ _))).below hb_wb)
  by_cases hq : q = 0
  case neg =>
    have HP := Lib.hid (HERR.out hq)
    have hq1 : (q != 0) = true := bne_iff_ne.2 hq
    clear hq
    go_wp2_with fail
    go_ret2
    exact ⟨ret_pair HP.out, HB_wb⟩
  replace HEQ := Lib.hid (fun es a b => HEQ.out hq (es := es) a b)
  subst hq
  clear HERR HRM
  obtain ⟨i0, hi, hz0, hz1, hz2⟩ := info_parts info_int
  have HI := Lib.hid hi
  have HZ0 := Lib.hid hz0
  have HZ1 := Lib.hid hz1
  have HZ2 := Lib.hid hz2
  clear hi hz0 hz1 hz2
  go_wp2_with fail
  go_loopw [12, 38] (fun o i wr => ∃ k : Nat, k ≤ l.length ∧ i = .int .i64 k ∧ Below wb.heap.size wb wr ∧ Hid (OwnL wr wb.heap.size 3 1 cI o ((l.take k).map fun u => max now u.fe))) (fun _ i _ => l.length - (intOf i).toNat)
  case atStart => exact ⟨0, by omega, rfl, Below.refl _ _, OwnL.nil⟩
  case round =>
    obtain ⟨k, hk, rfl, HB_wr, HO⟩ := hrel
    by_cases hlt : k < l.length
    · have HN := Lib.hid (show (l.take (k + 1)).map (fun u => max now u.fe) = (l.take k).map (fun u => max now u.fe) ++ [max now l[k].fe] by rw [List.take_add_one, List.getElem?_eq_getElem hlt, List.map_append]; rfl)
      have hl : ((l.take k).map fun u => max now u.fe).length ≤ 200 := by rw [List.length_map]; have := List.length_take_le k l; omega
      have hfe := HOK.out l[k] (List.getElem_mem hlt)
      obtain ⟨b, off, rfl, hb, hrow⟩ := HS.out.get hlt
      obtain ⟨e_0, e_1, e_2, e_3, e_4⟩ := ((hrow k hlt).below HB_wr hb).c5
      clear hrow
      generalize ((l.take k).map fun u => max now u.fe) = ys at *
      generalize l[k] = u at *
      obtain ⟨⟨u0, u1, u2⟩, u3, u4⟩ := u
      dsimp only at e_0 e_1 e_2 e_3 e_4 HN hfe
      obtain ⟨_, hf1, hf2, hf3⟩ := hfe
      rcases Int.lt_or_le now u4 with hmx | hmx
      · rw [show max now u4 = u4 by omega] at HN
        have HOX := Lib.hid ((HO.out.alloc (.cells #[.int .i64 u0, .int .i64 u1, .int .i64 u2, .int .i64 u3, .int .i64 u4] 43)).alloc (.cells #[.int .i64 u4] 3))
        have HSX : Hid (Sl ((wr.alloc (.cells #[.int .i64 u0, .int .i64 u1, .int .i64 u2, .int .i64 u3, .int .i64 u4] 43)).alloc (.cells #[.int .i64 u4] 3)) 1 cI (some ⟨wr.heap.size + 1, 0, none⟩) 1 1 [u4]) := by
          have h := Sl.one (x := u4) cI_len (Box.new (wr.alloc (.cells #[.int .i64 u0, .int .i64 u1, .int .i64 u2, .int .i64 u3, .int .i64 u4] 43)) (cI u4) 3)
          rw [World.size_alloc] at h
          exact h
        have hsz : wb.heap.size ≤ ((wr.alloc (.cells #[.int .i64 u0, .int .i64 u1, .int .i64 u2, .int .i64 u3, .int .i64 u4] 43)).alloc (.cells #[.int .i64 u4] 3)).heap.size := by have := HB_wr.size; simp; omega
        go_wp2_with (at_builtin; refine wpList_append_sl rfl _ _ 48 rfl wb.heap.size 3 i0 _ 1 8 Tryz.underlying48 HI.out HZ0.out HZ1.out HZ2.out rfl (by decide) cI_len cI_one _ ys rfl HOX.out (some ⟨wr.heap.size + 1, 0, none⟩) 1 1 [u4] rfl HSX.out (by unfold maxLen; omega) (by omega) hsz ?_)
        rintro v' w6 ho6 hg6 _
        have HB_w6 : Below wb.heap.size wb w6 := (grew2 HB_wr).trans (hg6 _ (Nat.le_refl _))
        have HO6 := Lib.hid ho6
        clear ho6 hg6 e_0 e_1 e_2 e_3 e_4
        go_wp2_with fail
        go_roundw
        case rel => exact ⟨k + 1, by omega, by go_num, HB_w6, by show OwnL _ _ _ _ _ _ _; rw [HN.out]; exact HO6.out⟩
        case measure => simp [intOf]; omega
      · rw [show max now u4 = now by omega] at HN
        have HOX := Lib.hid ((HO.out.alloc (.cells #[.int .i64 u0, .int .i64 u1, .int .i64 u2, .int .i64 u3, .int .i64 u4] 43)).alloc (.cells #[.int .i64 now] 3))
        have HSX : Hid (Sl ((wr.alloc (.cells #[.int .i64 u0, .int .i64 u1, .int .i64 u2, .int .i64 u3, .int .i64 u4] 43)).alloc (.cells #[.int .i64 now] 3)) 1 cI (some ⟨wr.heap.size + 1, 0, none⟩) 1 1 [now]) := by
          have h := Sl.one (x := now) cI_len (Box.new (wr.alloc (.cells #[.int .i64 u0, .int .i64 u1, .int .i64 u2, .int .i64 u3, .int .i64 u4] 43)) (cI now) 3)
          rw [World.size_alloc] at h
          exact h
        have hsz : wb.heap.size ≤ ((wr.alloc (.cells #[.int .i64 u0, .int .i64 u1, .int .i64 u2, .int .i64 u3, .int .i64 u4] 43)).alloc (.cells #[.int .i64 now] 3)).heap.size := by have := HB_wr.size; simp; omega
        go_wp2_with (at_builtin; refine wpList_append_sl rfl _ _ 48 rfl wb.heap.size 3 i0 _ 1 8 Tryz.underlying48 HI.out HZ0.out HZ1.out HZ2.out rfl (by decide) cI_len cI_one _ ys rfl HOX.out (some ⟨wr.heap.size + 1, 0, none⟩) 1 1 [now] rfl HSX.out (by unfold maxLen; omega) (by omega) hsz ?_)
        rintro v' w6 ho6 hg6 _
        have HB_w6 : Below wb.heap.size wb w6 := (grew2 HB_wr).trans (hg6 _ (Nat.le_refl _))
        have HO6 := Lib.hid ho6
        clear ho6 hg6 e_0 e_1 e_2 e_3 e_4
        go_wp2_with fail
        go_roundw
        case rel => exact ⟨k + 1, by omega, by go_num, HB_w6, by show OwnL _ _ _ _ _ _ _; rw [HN.out]; exact HO6.out⟩
        case measure => simp [intOf]; omega
    · obtain rfl : k = l.length := by omega
      rw [List.take_length] at HO
      have hyl : ((l.map fun u => max now u.fe)).length ≤ 200 := by rw [List.length_map]; exact hlen
      have HES := Lib.hid (HEQ.out (srt (l.map fun u => max now u.fe)) (srt_sorted _) (fun t => srt_mem))
      generalize (l.map fun u => max now u.fe) = ys at *
      have hsl := srt_len ys
      have hbs := HB_wr.size
      have HC := Lib.hid (HSO.out _ _ _ _ HO.out (by omega))
      go_wp2_with fail
      refine HC.out.mono ?_
      rintro e wc ⟨rfl, ho, hgr⟩
      have HB_wc : Below wb.heap.size wb wc := HB_wr.trans (below_grown HO.out (Nat.le_refl _) hbs hgr)
      have hbc := HB_wc.size
      obtain ⟨vo, vc, rfl, hss⟩ := ho.sl cI_len
      generalize srt ys = es at *
      have hsle : es.length ≤ 200 := by omega
      clear hsl hyl
      have HSS := Lib.hid hss
      clear ho hgr HC HO hss
      have HOL := Lib.hid (own_lit (w := wc) (base := wb.heap.size) now hbc)
      have HSL := Lib.hid (HSS.out.below (grew1 (o := .cells #[.int .i64 now] 3) (Below.refl _ _)))
      have hsz : wb.heap.size ≤ (wc.alloc (.cells #[.int .i64 now] 3)).heap.size := by simp; omega
      go_wp2_with (at_builtin; refine wpList_append_sl rfl _ _ 48 rfl wb.heap.size 3 i0 _ 1 8 Tryz.underlying48 HI.out HZ0.out HZ1.out HZ2.out rfl (by decide) cI_len cI_one _ [now] rfl HOL.out vo _ vc es rfl HSL.out (by unfold maxLen; simp; omega) (by simp; omega) hsz ?_)
      rintro v5 w5 ho5 hg5 _
      have HB_w5 : Below wb.heap.size wb w5 := (grew1 HB_wc).trans (hg5 _ (Nat.le_refl _))
      have hrl : (now :: es).length ≤ 201 := by simp; omega
      have HHIT := Lib.hid (@waitP_hit l st kd now es)
      have HMISS := Lib.hid (@waitP_miss l st kd now es)
      clear HSL HOL hsz HEQ
      generalize waitP l st kd now es = wp at *
      generalize (now :: es) = ts at *
      obtain ⟨ro, rc, rfl, hrs⟩ := ho5.sl cI_len
      have HRS := Lib.hid hrs
      have hrm := hrs.max
      have hrc := hrs.le
      unfold maxLen at hrm
      clear ho5 hg5 hrs HSS HB_wc hbc hbs hk hlt
      have HS5 := Lib.hid (HS.out.below HB_w5)
      go_wp2_with fail
      go_loopw [57] (fun i wr => ∃ k : Nat, k ≤ ts.length ∧ i = .int .i64 k ∧ Below w5.heap.size w5 wr ∧ Hid (∀ j (hj : j < ts.length), j < k → roomy l st kd ts[j] = false)) (fun i _ => ts.length - (intOf i).toNat)
      case atStart => exact ⟨0, by omega, rfl, Below.refl _ _, fun j _ h => absurd h (Nat.not_lt_zero _)⟩
      case round =>
        obtain ⟨k, hk, rfl, HB_wr2, HJ⟩ := hrel
        by_cases hlt : k < ts.length
        · have HY := Lib.hid (fun h => HHIT.out k hlt h HJ.out)
          have HNX := Lib.hid (show roomy l st kd ts[k] = false → ∀ j (hj : j < ts.length), j < k + 1 → roomy l st kd ts[j] = false from fun h0 j hj hjk => by
            rcases Nat.lt_succ_iff_lt_or_eq.1 hjk with h1 | rfl
            · exact HJ.out j hj h1
            · exact h0)
          obtain ⟨b, off, rfl, hb, hrow⟩ := HRS.out.get hlt
          have e_0 := ((hrow k hlt).below HB_wr2 hb).c1
          rw [Nat.mul_one] at e_0
          clear hrow
          generalize ts[k] = t at *
          have HRB := Lib.hid (show roomy l st kd t = (decide ((room l st kd t).2 = 0) && decide (0 < (room l st kd t).1)) from rfl)
          have HC := Lib.hid (room_any ao l.length cap l st kd t wr (HS5.out.below HB_wr2))
          obtain ⟨⟨x, y⟩, hxy⟩ : ∃ p, room l st kd t = p := ⟨_, rfl⟩
          rw [hxy] at HC HRB
          dsimp only at HC HRB
          clear hxy
          generalize roomy l st kd t = rb at *
          go_wp2_with fail
          refine HC.out.mono ?_
          rintro e w6 ⟨rfl, hb6⟩
          have HB_w6 := after0 HB_wr2 hb6
          clear hb6 e_0 HC
          by_cases h0 : y = 0
          · subst h0
            by_cases hx : 0 < x
            · have HP := Lib.hid (show p = (t, 0) by rw [HES.out, HY.out (by rw [HRB.out]; simp [hx])])
              go_wp2_with fail
              go_ret2
              exact ⟨ret_pair HP.out, after0 HB_wb (after0 HB_w5 HB_w6)⟩
            · have HN := Lib.hid (HNX.out (by rw [HRB.out]; simp [hx]))
              replace hx := Int.not_lt.1 hx
              go_wp2_with fail
              go_roundw
              case rel => exact ⟨k + 1, by omega, by go_num, HB_w6, HN⟩
              case measure => simp [intOf]; omega
          · have h0' : (y == 0) = false := beq_eq_false_iff_ne.2 h0
            have HN := Lib.hid (HNX.out (by rw [HRB.out]; simp [h0]))
            clear h0
            go_wp2_with fail
            go_roundw
            case rel => exact ⟨k + 1, by omega, by go_num, HB_w6, HN⟩
            case measure => simp [intOf]; omega
        · have HP := Lib.hid (show p = (10000000, 0) by rw [HES.out, HMISS.out (fun j hj => HJ.out j hj (by omega))])
          go_wp2_with fail
          go_ret2
          exact ⟨ret_pair HP.out, after0 HB_wb (after0 HB_w5 HB_wr2)⟩
end Go.Proofs.YtpdecgbfnhaojaaGreat
