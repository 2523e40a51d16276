/-
  Walk: the journal of what is told of a danger.
-/
import Derived.Test.YtmbnhlihcnbebaaTwP
import Derived.Test.YtmbnhlihcnbebaaTwC
import Derived.Test.YtmbnhlihcnbebaaEyP
import Derived.Test.YtmbnhlihcnbebaaRow
import Derived.Test.YtmbnhlihcnbebaaLie
set_option linter.unusedVariables false
namespace Ey
def corD : Option Bx → Dg
  | some b => ⟨0, true, b, 0, false, bx0⟩
  | none => dg0
theorem corD_inj {o o' : Option Bx} (h : corD o = corD o') : o = o' := by
  cases o <;> cases o' <;> simp [corD, dg0] at h ⊢
  exact h
theorem fnd_snoc (L : List Dg) (d : Dg) (x : Int) : fnd (L ++ [d]) x = (fnd L x).or (if d.id = x then some d else none) := by
  unfold fnd
  rw [List.find?_append]
  by_cases h : d.id = x <;> simp [h]
theorem cor_yes {M : List Dg} {x : Int} {j : Nat} (hs : Sor M) (h : j < M.length) (h1 : M[j].id = x) (h2 : M[j].told = true) : cor (M.take (j + 1)) x = some M[j].area := by
  have e : M.take (j + 1) = M.take j ++ [M[j]] := by rw [List.take_add_one, List.getElem?_eq_getElem h]; rfl
  have hn : fnd (M.take j) x = none := by
    unfold fnd
    rw [List.find?_eq_none]
    intro d hd
    obtain ⟨i, hi, rfl⟩ := List.getElem_of_mem hd
    rw [List.length_take] at hi
    rw [List.getElem_take]
    have := List.pairwise_iff_getElem.1 hs i j (by omega) h (by omega)
    simp; omega
  have hg : gt (M.take (j + 1)) x = M[j] := by unfold gt; rw [e, fnd_snoc, hn, if_pos h1]; rfl
  unfold cor
  rw [hg, if_pos h2]
theorem cor_no {M : List Dg} {x : Int} {j : Nat} (hs : Sor M) (h : j < M.length) (h1 : ¬ (M[j].id = x ∧ M[j].told = true)) : cor (M.take (j + 1)) x = cor (M.take j) x := by
  have e : M.take (j + 1) = M.take j ++ [M[j]] := by rw [List.take_add_one, List.getElem?_eq_getElem h]; rfl
  by_cases hx : M[j].id = x
  · have hn : fnd (M.take j) x = none := by
      unfold fnd
      rw [List.find?_eq_none]
      intro d hd
      obtain ⟨i, hi, rfl⟩ := List.getElem_of_mem hd
      rw [List.length_take] at hi
      rw [List.getElem_take]
      have := List.pairwise_iff_getElem.1 hs i j (by omega) h (by omega)
      simp; omega
    have hg : gt (M.take (j + 1)) x = M[j] := by unfold gt; rw [e, fnd_snoc, hn, if_pos hx]; rfl
    have ht : M[j].told = false := by
      cases ht : M[j].told with
      | true => exact absurd ⟨hx, ht⟩ h1
      | false => rfl
    have h0 : cor (M.take j) x = none := by unfold cor gt; rw [hn]; rfl
    rw [h0]
    unfold cor
    rw [hg, if_neg (by simp [ht])]
  · have hg : gt (M.take (j + 1)) x = gt (M.take j) x := by unfold gt; rw [e, fnd_snoc, if_neg hx, Option.or_none]
    unfold cor
    rw [hg]
end Ey
namespace Sk
open Go Go.RowKit
theorem OwnL.keep {α : Type} {enc : α → List Value} {w w' : World} {base e size : Nat} {v : Value} {ys : List α} {g : Nat} (h : OwnL w base e size enc v ys) (hk : ∀ b T' ds, b ≠ g → Box w b T' ds → Box w' b T' ds) (hg : g < base) : OwnL w' base e size enc v ys :=
  ⟨h.1, h.2.imp id (fun ⟨g', cap, cur, hv, hb, hgc, rest⟩ => ⟨g', cap, cur, hv, hb, by
    have := hk g' e cur.toList (by omega) (by unfold Box; simpa using hgc)
    unfold Box at this
    simpa using this, rest⟩)⟩
end Sk
namespace Go.Proofs.Ytmbnhlihcnbebaa
open Go Go.RowKit Ey Sk Go.Sort
theorem info_dang : (Try.prog.info? 33).map (·.size) = some 12 := by kernel_rfl

set_option maxRecDepth 100000 in
set_option maxHeartbeats 8000000 in
theorem rows_any (hko : KeysOk) (ao : Option Addr) (n cap : Nat) (l : List Ac) (x : Int) (w : World) (hs : Sl w 8 cA ao n cap l) (hf : Fit l x) :
    Calls Try.prog 32 #[.slice ao n cap, .int .i64 x] w (fun e w' => ∃ v, e = .returned (.tuple #[v, .bool true]) ∧ OwnL w' w.heap.size 94 5 cRw v (jR x l l.length) ∧ Below w.heap.size w w') := by
  obtain rfl := hs.len
  have hcap := hs.max
  have hle := hs.le
  unfold maxLen at hcap
  have HS := Lib.hid hs
  have HF := Lib.hid hf
  have HKO := Lib.hid hko
  have hl30 := hf.len
  clear hs hf hko
  obtain ⟨R, hR⟩ : ∃ R, w.heap.size = R := ⟨_, rfl⟩
  obtain ⟨W0, hW0, HB_W0, hZ0, hbw⟩ := boxes1 w [.int .i64 0, .bool false, .int .i64 0, .int .i64 0, .int .i64 0, .int .i64 0, .int .i64 0, .bool false, .int .i64 0, .int .i64 0, .int .i64 0, .int .i64 0] 33
  rw [hR] at hbw hZ0
  have H_B := Lib.hid hbw
  have HZ0 := Lib.hid hZ0
  clear hbw hZ0
  go_enter Try.func32, Try.ntmps32
  go_wp2_with (refine wpList_store_box rfl 33 _ _ rfl R 33 _ [.int .i64 0, .bool false, .int .i64 0, .int .i64 0, .int .i64 0, .int .i64 0, .int .i64 0, .bool false, .int .i64 0, .int .i64 0, .int .i64 0, .int .i64 0] rfl rfl H_B.out info_dang rfl rfl ?_; intro W5 hb_W5 hl_W5 ho_W5 hz_W5)
  clear hW0
  have HB_W5 : Below w.heap.size w W5 := HB_W0.trans (hl_W5 _ (by omega))
  have H_B5 := Lib.hid hb_W5
  have hsz5 : R + 1 ≤ W5.heap.size := by have := HZ0.out; omega
  clear hb_W5 hl_W5 ho_W5 hz_W5 H_B HZ0
  try go_wp2_with fail
  go_loopw [6, 21] (fun o i wr => ∃ k : Nat, k ≤ l.length ∧ i = .int .i64 k ∧ Hid (OwnL wr (R + 1) 94 5 cRw o (jR x l k)) ∧ Hid (Box wr R 33 (cD (corD (cor (stS (l.take k)) x)))) ∧ Below w.heap.size w wr ∧ R + 1 ≤ wr.heap.size) (fun _ i _ => l.length - (intOf i).toNat)
  case atStart => exact ⟨0, Nat.zero_le _, rfl, OwnL.nil, H_B5.out, HB_W5, hsz5⟩
  case round =>
    clear H_B5 HB_W5 HB_W0 hsz5
    obtain ⟨k, hk, rfl, HO, H_B, HB_wr, hszr⟩ := hrel
    by_cases hkl : k < l.length
    · obtain ⟨b', off, rfl, hb, hrow⟩ := HS.out.get hkl
      obtain ⟨e_0, e_1, e_2, e_3, e_4, e_5, e_6, e_7⟩ := ((hrow k hkl).below HB_wr hb).c8
      have HTM := Lib.hid (tmA_at hkl)
      have HRWO := Lib.hid (HF.out.row hkl)
      clear hrow
      generalize l[k] = a at *
      obtain ⟨a0, a1, a2, a3, ⟨a4, a5, a6, a7⟩⟩ := a
      dsimp only at e_0 e_1 e_2 e_3 e_4 e_5 e_6 e_7 HTM
      obtain ⟨Ra, hRa⟩ : ∃ Ra, wr.heap.size = Ra := ⟨_, rfl⟩
      obtain ⟨W1, hW1, hB1, hZ1, hba⟩ := boxes1 wr [.int .i64 a0, .int .i64 a1, .int .i64 a2, .int .i64 a3, .int .i64 a4, .int .i64 a5, .int .i64 a6, .int .i64 a7] 37
      rw [hRa] at hba hZ1
      have H_A := Lib.hid hba
      have HB_W1 : Below w.heap.size w W1 := after0 HB_wr hB1
      have HO1 := Lib.hid (HO.out.below hB1)
      have H_B1 := Lib.hid (H_B.out.below hB1)
      clear hba hB1 HO H_B HB_wr
      have HREP := Lib.hid (replay_any HKO.out _ _ _ (l.take (k + 1)) W1 ((HS.out.take (n := k + 1) (by omega)).below HB_W1) (by rw [List.length_take]; omega))
      have hkc : k + 1 ≤ cap := by omega
      have hst1 := slice_head (P := Try.prog) (t := 22) (by kernel_rfl) (fun W => by kernel_rfl) HS.out (k + 1) (by omega)
      rw [Int.natCast_add] at hst1
      go_wp2_with fail
      all_goals try (exfalso; omega)
      clear e_0 e_1 e_2 e_3 e_4 e_5 e_6 e_7 hst1
      have hvk := validL_take (k + 1) HF.out.v
      have hrv := rep_valid hvk
      have hrc := replS_came (l.take (k + 1))
      rw [List.length_take, Nat.min_eq_left (show k + 1 ≤ l.length by omega)] at hrc
      have hsor := (stS_sor (l.take (k + 1))).1
      have hml := (stS_sor (l.take (k + 1))).2
      rw [List.length_take, Nat.min_eq_left (show k + 1 ≤ l.length by omega)] at hml
      unfold ReplE at HREP
      rw [hrv] at HREP
      generalize (replS (l.take (k + 1))).came = cm at *
      clear hvk hrv
      have HJS := Lib.hid (fun h => @jR_same x l k h)
      have HJM := Lib.hid (fun h => @jR_more x l k h)
      have HRW := Lib.hid (show rwA x l k = ⟨x, if (cor (stS (l.take (k + 1))) x).isSome = true then (k + 1 : Int) else 0, tmA l k, 10000000, tmA l k⟩ from rfl)
      have HVR := Lib.hid (HF.out.valid (k := k) (by omega))
      have HLK := Lib.hid (fun r hr => HF.out.last hkl (r := r) hr)
      have hjl := jR_len x l k
      rw [HTM.out] at HRW HLK
      have HMM := Lib.hid (show stS (l.take (k + 1)) = stS (l.take (k + 1)) from rfl)
      obtain ⟨M, hM⟩ : ∃ M, stS (l.take (k + 1)) = M := ⟨_, rfl⟩
      rw [hM] at hsor hml HREP HJS HJM HRW
      replace HMM := Lib.hid hM
      have hRa1 : R + 1 ≤ Ra := hRa ▸ hszr
      clear hM
      refine (HREP.out).mono ?_
      rintro e wc ⟨o1, c1, o2, c2, rfl, hs1, hs2, hb_wc⟩
      have HB_wc : Below w.heap.size w wc := by first | exact after0 HB_W1 hb_wc | exact after1 HB_W1 hb_wc | exact after2 HB_W1 hb_wc | exact after3 HB_W1 hb_wc | exact after4 HB_W1 hb_wc | exact after5 HB_W1 hb_wc
      have HSM := Lib.hid hs1
      have HOC := Lib.hid (HO1.out.below hb_wc)
      have H_BC := Lib.hid (H_B1.out.below hb_wc)
      have H_AC := Lib.hid (H_A.out.below hb_wc)
      have HSOR := Lib.hid hsor
      have hszc : Ra + 1 ≤ wc.heap.size := by have := hb_wc.size; omega
      clear hW1 hs1 hs2 HREP HO1 H_B1 H_A hsor hRa hZ1
      obtain ⟨N, hN⟩ : ∃ N, wc.heap.size = N := ⟨_, rfl⟩
      obtain ⟨W2, hW2, hB2, hZ2, hbn⟩ := boxes1 wc [.int .i64 0, .bool false, .int .i64 0, .int .i64 0, .int .i64 0, .int .i64 0, .int .i64 0, .bool false, .int .i64 0, .int .i64 0, .int .i64 0, .int .i64 0] 33
      rw [hN] at hbn hZ2 hszc
      have H_N := Lib.hid hbn
      clear hbn
      go_wp2_with (refine wpList_store_box rfl 33 _ _ rfl N 33 _ [.int .i64 0, .bool false, .int .i64 0, .int .i64 0, .int .i64 0, .int .i64 0, .int .i64 0, .bool false, .int .i64 0, .int .i64 0, .int .i64 0, .int .i64 0] rfl rfl H_N.out info_dang rfl rfl ?_; intro W3 hb_W3 hl_W3 ho_W3 hz_W3)
      clear hW2
      have HBC3 : Below wc.heap.size wc W3 := hB2.trans (hl_W3 _ (by omega))
      have H_N3 := Lib.hid hb_W3
      clear hb_W3 hl_W3 ho_W3 hz_W3 H_N hB2
      have hcm : cm.length = k + 1 := hrc
      try go_wp2_with fail
      go_loopw [37] (fun i wr2 => ∃ j : Nat, j ≤ M.length ∧ i = .int .i64 j ∧ Hid (Box wr2 N 33 (cD (corD (cor (M.take j) x)))) ∧ Hid (Below wc.heap.size wc wr2)) (fun i _ => M.length - (intOf i).toNat)
      case atStart => exact ⟨0, Nat.zero_le _, rfl, H_N3.out, HBC3⟩
      case round =>
        clear H_N3 HBC3
        obtain ⟨j, hj, rfl, H_N, HBC⟩ := hrel
        by_cases hjm : j < M.length
        · obtain ⟨bm, offm, rfl, hbm, hrow⟩ := (HSM.out.below HBC.out).get hjm
          obtain ⟨e_0, e_1, e_2, e_3, e_4, e_5, e_6, e_7, e_8, e_9, e_10, e_11⟩ := (hrow j hjm).c12
          have HY := Lib.hid (fun h1 h2 => cor_yes (x := x) HSOR.out hjm h1 h2)
          have HN := Lib.hid (fun h1 => cor_no (x := x) HSOR.out hjm h1)
          clear hrow
          generalize M[j] = d at *
          obtain ⟨d0, told, ⟨d2, d3, d4, d5⟩, d6, drop, ⟨d8, d9, d10, d11⟩⟩ := d
          dsimp only at e_0 e_1 e_2 e_3 e_4 e_5 e_6 e_7 e_8 e_9 e_10 e_11 HY HN
          obtain ⟨Rd, hRd⟩ : ∃ Rd, wr.heap.size = Rd := ⟨_, rfl⟩
          obtain ⟨W4, hW4, hB4, hZ4, hbd⟩ := boxes1 wr [.int .i64 d0, .bool told, .int .i64 d2, .int .i64 d3, .int .i64 d4, .int .i64 d5, .int .i64 d6, .bool drop, .int .i64 d8, .int .i64 d9, .int .i64 d10, .int .i64 d11] 33
          rw [hRd] at hbd
          have H_N4 := Lib.hid (H_N.out.below hB4)
          have HBC4 := Lib.hid (HBC.out.trans (hB4.mono HBC.out.size))
          obtain ⟨f_0, f_1, f_2, f_3, f_4, f_5, f_6, f_7, f_8, f_9, f_10, f_11⟩ := hbd.c12
          clear H_N HBC hZ4 hbd hB4
          by_cases hdx : d0 = x
          case neg =>
            have HP := Lib.hid (HN.out (fun h => hdx h.1))
            have hdx2 : (d0 == x) = false := beq_eq_false_iff_ne.2 hdx
            clear HY HN hdx
            go_wp2_with fail
            all_goals try (exfalso; omega)
            go_roundw
            case rel => exact ⟨j + 1, hjm, by go_num, by rw [HP.out]; exact H_N4.out, HBC4⟩
            case measure => simp [intOf] <;> omega
          subst hdx
          cases told
          · have HP := Lib.hid (HN.out (fun h => by cases h.2))
            clear HY HN
            go_wp2_with fail
            all_goals try (exfalso; omega)
            go_roundw
            case rel => exact ⟨j + 1, hjm, by go_num, by rw [HP.out]; exact H_N4.out, HBC4⟩
            case measure => simp [intOf] <;> omega
          · have HP := Lib.hid (HY.out rfl rfl)
            clear HY HN
            go_wp2_with (refine wpList_store_box rfl 33 _ _ rfl N 33 _ [.int .i64 0, .bool true, .int .i64 d2, .int .i64 d3, .int .i64 d4, .int .i64 d5, .int .i64 0, .bool false, .int .i64 0, .int .i64 0, .int .i64 0, .int .i64 0] rfl rfl H_N4.out info_dang rfl rfl ?_; intro W6 hb6 hl6 ho6 hz6)
            have H_N6 := Lib.hid hb6
            have HBC6 := Lib.hid (HBC4.out.trans (hl6 _ (Nat.le_of_eq hN)))
            clear hb6 hl6 ho6 hz6 H_N4 HBC4
            try go_wp2_with fail
            go_roundw
            case rel => exact ⟨j + 1, hjm, by go_num, by rw [HP.out]; exact H_N6.out, HBC6⟩
            case measure => simp [intOf] <;> omega
        · obtain rfl : j = M.length := by omega
          rw [List.take_length] at H_N
          have HO6 := Lib.hid (HOC.out.below HBC.out)
          have H_B6 := Lib.hid (H_BC.out.below HBC.out)
          have H_A6 := Lib.hid (H_AC.out.below HBC.out)
          have HB_6 : Below w.heap.size w wr := after0 HB_wc HBC.out
          have hsz6 : N ≤ wr.heap.size := by rw [← hN]; exact HBC.out.size
          clear HOC H_BC H_AC HSM HBC HSOR hrc hjm hj hml
          have HEQ := Lib.hid (fun h => @corD_inj (cor M x) (cor (stS (l.take k)) x) h)
          have HNT := Lib.hid (show (corD (cor M x)).told = (cor M x).isSome by cases cor M x <;> rfl)
          have HMO := Lib.hid (show cor (stS (l.take (k + 1))) x = cor M x by rw [HMM.out])
          clear HMM
          generalize cor M x = o at *
          generalize cor (stS (l.take k)) x = o' at *
          have HEE := Lib.hid (show o = o' → corD o = corD o' from fun h => by rw [h])
          obtain ⟨dn, hdn⟩ : ∃ dn, corD o = dn := ⟨_, rfl⟩
          have HDN := Lib.hid hdn
          rw [hdn] at H_N HEQ HNT HEE
          clear hdn
          generalize corD o' = dw at *
          obtain ⟨n0, nt, ⟨n2, n3, n4, n5⟩, n6, nd, ⟨n8, n9, n10, n11⟩⟩ := dn
          obtain ⟨v0, vt, ⟨v2, v3, v4, v5⟩, v6, vd, ⟨v8, v9, v10, v11⟩⟩ := dw
          have hq := eql_dg n0 n2 n3 n4 n5 n6 n8 n9 n10 n11 v0 v2 v3 v4 v5 v6 v8 v9 v10 v11 nt nd vt vd
          obtain ⟨e_0, e_1, e_2, e_3, e_4, e_5, e_6, e_7, e_8, e_9, e_10, e_11⟩ := H_N.out.c12
          obtain ⟨f_0, f_1, f_2, f_3, f_4, f_5, f_6, f_7, f_8, f_9, f_10, f_11⟩ := H_B6.out.c12
          dsimp only at e_0 e_1 e_2 e_3 e_4 e_5 e_6 e_7 e_8 e_9 e_10 e_11 f_0 f_1 f_2 f_3 f_4 f_5 f_6 f_7 f_8 f_9 f_10 f_11
          by_cases hnv : (⟨n0, nt, ⟨n2, n3, n4, n5⟩, n6, nd, ⟨n8, n9, n10, n11⟩⟩ : Dg) = ⟨v0, vt, ⟨v2, v3, v4, v5⟩, v6, vd, ⟨v8, v9, v10, v11⟩⟩
          · rw [decide_eq_true hnv] at hq
            have HP := Lib.hid (HJS.out (HEQ.out hnv))
            have HBN := Lib.hid (show Box wr R 33 (cD (corD o)) by rw [HDN.out, hnv]; exact H_B6.out)
            clear hnv HEQ HEE HJS HJM HRW
            go_wp2_with fail
            go_roundw
            case rel => exact ⟨k + 1, hkl, by go_num, by rw [HP.out]; exact HO6.out, by rw [HMO.out]; exact HBN.out, HB_6, by omega⟩
            case measure => simp [intOf] <;> omega
          · rw [decide_eq_false hnv] at hq
            have HP := Lib.hid (HJM.out (fun h => hnv (HEE.out h)))
            clear hnv HEQ HEE HJS HJM
            obtain ⟨oo, oc, rfl, hsl⟩ := OwnL.sl cRw_len HO6.out
            have hjl2 : (jR x l k).length < 200 := by omega
            have HSL := Lib.hid hsl
            clear hsl
            have hneA : Ra ≠ R := by omega
            have hneN : N ≠ R := by omega
            cases nt
            ·
              go_wp2_with (
                refine wpList_store_box rfl 33 _ _ rfl R 33 _ [.int .i64 n0, .bool false, .int .i64 n2, .int .i64 n3, .int .i64 n4, .int .i64 n5, .int .i64 n6, .bool nd, .int .i64 n8, .int .i64 n9, .int .i64 n10, .int .i64 n11] rfl rfl H_B6.out info_dang rfl rfl ?_
                intro W7 hb7 hl7 ho7 hz7
                have HA7 := Lib.hid (ho7 Ra _ _ hneA H_A6.out)
                have HN7 := Lib.hid (ho7 N _ _ hneN H_N.out)
                have HB7 := Lib.hid hb7
                have HL7 := Lib.hid hl7
                have HO7 := Lib.hid (HO6.out.keep ho7 (Nat.lt_succ_self R))
                have HB_7 := Lib.hid (HB_6.trans (hl7 _ (Nat.le_of_eq hR)))
                obtain ⟨-, -, -, g_3, -, -, -, -⟩ := HA7.out.c8
                have HZ8 := Lib.hid hz7
                obtain ⟨P, hP⟩ : ∃ P, W7.heap.size = P := ⟨_, rfl⟩
                obtain ⟨W8, hW8, hB8, hZ8, hbr⟩ := boxes1 W7 [.int .i64 x, .int .i64 0, .int .i64 a3, .int .i64 10000000, .int .i64 a3] 94
                rw [hP] at hbr
                have HR8 := Lib.hid hbr
                have HBL8 := Lib.hid hB8
                obtain ⟨-, t_1, -⟩ := (HN7.out.below hB8).c12
                obtain ⟨r_0, r_1, r_2, r_3, r_4⟩ := hbr.c5
                have r_f := hbr.frozen
                clear e_0 e_1 e_2 e_3 e_4 e_5 e_6 e_7 e_8 e_9 e_10 e_11 f_0 f_1 f_2 f_3 f_4 f_5 f_6 f_7 f_8 f_9 f_10 f_11 hq hb7 hl7 ho7 hz7 hB8 hbr hZ8)
              have HSP : Hid (R + 1 ≤ P) := by show _ ≤ _; have := HZ8.out; omega
              obtain ⟨WS, hWS⟩ : ∃ WS, W8 = WS := ⟨_, rfl⟩
              have HBS : Hid (Below W7.heap.size W7 WS) := hWS ▸ HBL8.out
              have HBW : Hid (Below w.heap.size w WS) := hWS ▸ after0 HB_7.out HBL8.out
              have HSS : Hid (Sl WS 5 cRw oo (jR x l k).length oc (jR x l k)) := (by obtain ⟨o5, c5, e5, s5⟩ := OwnL.sl cRw_len (HO7.out.below HBS.out); cases e5; exact s5)
              have hszs : R + 1 ≤ WS.heap.size := by have := HBS.out.size; have := HSP.out; omega
              rw [hWS] at *
              clear hWS hW8
              have HRV := Lib.hid (show rwA x l k = ⟨x, 0, a3, 10000000, a3⟩ by rw [HRW.out, ← HNT.out]; rfl)
              have hrb := HRWO.out
              rw [HRV.out] at hrb
              have HSAY := Lib.hid (say_any oo _ oc (jR x l k) ⟨x, 0, a3, 10000000, a3⟩ WS HSS.out HVR.out hrb hjl2 (fun q hq => HLK.out q hq))
              dsimp only [eRw] at HSAY
              clear hrb t_1 r_0 r_1 r_2 r_3 r_4
              refine HSAY.out.mono ?_
              rintro e w9 ⟨v9, rfl, ho9, hb9⟩
              have HO9 := Lib.hid ho9
              have HB9 := Lib.hid hb9
              clear ho9 hb9 HSAY
              go_wp2_with fail
              go_roundw
              case rel => exact ⟨k + 1, hkl, by go_num, by rw [HP.out, HRV.out]; exact HO9.out.mono (by omega), by rw [HMO.out, HDN.out]; exact HB7.out.below (HBS.out.trans (HB9.out.mono HBS.out.size)), after0 HBW.out HB9.out, by have := HB9.out.size; omega⟩
              case measure => simp [intOf] <;> omega
            ·
              go_wp2_with (
                refine wpList_store_box rfl 33 _ _ rfl R 33 _ [.int .i64 n0, .bool true, .int .i64 n2, .int .i64 n3, .int .i64 n4, .int .i64 n5, .int .i64 n6, .bool nd, .int .i64 n8, .int .i64 n9, .int .i64 n10, .int .i64 n11] rfl rfl H_B6.out info_dang rfl rfl ?_
                intro W7 hb7 hl7 ho7 hz7
                have HA7 := Lib.hid (ho7 Ra _ _ hneA H_A6.out)
                have HN7 := Lib.hid (ho7 N _ _ hneN H_N.out)
                have HB7 := Lib.hid hb7
                have HL7 := Lib.hid hl7
                have HO7 := Lib.hid (HO6.out.keep ho7 (Nat.lt_succ_self R))
                have HB_7 := Lib.hid (HB_6.trans (hl7 _ (Nat.le_of_eq hR)))
                obtain ⟨-, -, -, g_3, -, -, -, -⟩ := HA7.out.c8
                have HZ8 := Lib.hid hz7
                obtain ⟨P, hP⟩ : ∃ P, W7.heap.size = P := ⟨_, rfl⟩
                obtain ⟨W8, hW8, hB8, hZ8, hbr⟩ := boxes1 W7 [.int .i64 x, .int .i64 0, .int .i64 a3, .int .i64 10000000, .int .i64 a3] 94
                rw [hP] at hbr
                have HR8 := Lib.hid hbr
                have HBL8 := Lib.hid hB8
                obtain ⟨-, t_1, -⟩ := (HN7.out.below hB8).c12
                obtain ⟨r_0, r_1, r_2, r_3, r_4⟩ := hbr.c5
                have r_f := hbr.frozen
                clear e_0 e_1 e_2 e_3 e_4 e_5 e_6 e_7 e_8 e_9 e_10 e_11 f_0 f_1 f_2 f_3 f_4 f_5 f_6 f_7 f_8 f_9 f_10 f_11 hq hb7 hl7 ho7 hz7 hB8 hbr hZ8)
              have HSP : Hid (R + 1 ≤ P) := by show _ ≤ _; have := HZ8.out; omega
              have hPle : W7.heap.size ≤ P := Nat.le_of_eq hP
              obtain ⟨WS, hWS⟩ : ∃ WS, W8.setCell ⟨P, 1, none⟩ (.int .i64 (k + 1)) = WS := ⟨_, rfl⟩
              have HBS : Hid (Below W7.heap.size W7 WS) := hWS ▸ HBL8.out.setCell (p := ⟨P, 1, none⟩) hPle _
              have HBW : Hid (Below w.heap.size w WS) := hWS ▸ (after0 HB_7.out HBL8.out).setCell (p := ⟨P, 1, none⟩) (show w.heap.size ≤ P by have := HSP.out; omega) _
              have HSS : Hid (Sl WS 5 cRw oo (jR x l k).length oc (jR x l k)) := (by obtain ⟨o5, c5, e5, s5⟩ := OwnL.sl cRw_len (HO7.out.below HBS.out); cases e5; exact s5)
              have hszs : R + 1 ≤ WS.heap.size := by have := HBS.out.size; have := HSP.out; omega
              rw [hWS] at *
              clear hWS hW8
              have HRV := Lib.hid (show rwA x l k = ⟨x, ((k : Int) + 1), a3, 10000000, a3⟩ by rw [HRW.out, ← HNT.out]; rfl)
              have hrb := HRWO.out
              rw [HRV.out] at hrb
              have HSAY := Lib.hid (say_any oo _ oc (jR x l k) ⟨x, ((k : Int) + 1), a3, 10000000, a3⟩ WS HSS.out HVR.out hrb hjl2 (fun q hq => HLK.out q hq))
              dsimp only [eRw] at HSAY
              clear hrb t_1 r_0 r_1 r_2 r_3 r_4
              refine HSAY.out.mono ?_
              rintro e w9 ⟨v9, rfl, ho9, hb9⟩
              have HO9 := Lib.hid ho9
              have HB9 := Lib.hid hb9
              clear ho9 hb9 HSAY
              go_wp2_with fail
              go_roundw
              case rel => exact ⟨k + 1, hkl, by go_num, by rw [HP.out, HRV.out]; exact HO9.out.mono (by omega), by rw [HMO.out, HDN.out]; exact HB7.out.below (HBS.out.trans (HB9.out.mono HBS.out.size)), after0 HBW.out HB9.out, by have := HB9.out.size; omega⟩
              case measure => simp [intOf] <;> omega
    · obtain rfl : k = l.length := by omega
      go_wp2_with fail
      go_ret2
      exact ⟨_, rfl, HO.out.mono (by omega), HB_wr⟩
end Go.Proofs.Ytmbnhlihcnbebaa

set_option linter.unusedVariables false
namespace Ey
def hA : List Ac := [⟨1, 3, 1, 10, ⟨0, 9, 0, 0⟩⟩, ⟨3, 3, 2, 12, bx0⟩]
theorem hA_fit : Fit hA 3 := ⟨by decide, by decide, by decide, fun k h => (show ∀ a ∈ hA, a.time < 10000000 by decide) _ (List.getElem_mem h)⟩
theorem hA_jR : jR 3 hA hA.length = [⟨3, 2, 12, 10000000, 12⟩] := by decide
def hR : List Rw := [⟨3, 2, 12, 10000000, 12⟩]
theorem hR_v : validRw hR = true := by decide
theorem hR_1 : valR (pickR hR 3 11 11) = (0, 4) := by decide
theorem hR_2 : valR (pickR hR 3 12 12) = (2, 0) := by decide
theorem hR_3 : valR (pickR hR 3 500 12) = (2, 0) := by decide
end Ey
namespace Go.Proofs.Ytmbnhlihcnbebaa
open Go Go.RowKit Ey Sk Go.Sort
set_option maxRecDepth 100000 in
set_option maxHeartbeats 4000000 in
theorem headT_any (hko : KeysOk) (w : World) : Calls Try.prog 31 #[] w (Ret w (.bool true)) := by
  have HKO := Lib.hid hko
  clear hko
  obtain ⟨W0, hW0, HB_W0, hZ0, hb0⟩ := boxes1 w [.int .i64 1, .int .i64 3, .int .i64 1, .int .i64 10, .int .i64 0, .int .i64 9, .int .i64 0, .int .i64 0, .int .i64 3, .int .i64 3, .int .i64 2, .int .i64 12, .int .i64 0, .int .i64 0, .int .i64 0, .int .i64 0] 37
  have HSL := Lib.hid (show Sl W0 8 cA (some ⟨w.heap.size, 0, none⟩) hA.length hA.length hA from Sl.lit (l := hA) cA_len (by simpa [hA, bx0] using hb0) (by decide))
  have HROW := Lib.hid (rows_any HKO.out (some ⟨w.heap.size, 0, none⟩) hA.length hA.length hA 3 W0 HSL.out hA_fit)
  rw [hA_jR] at HROW
  rw [show hA.length = 2 from rfl] at HROW
  clear hb0 hZ0 HSL
  go_enter Try.func31, Try.ntmps31
  go_wp2_with fail
  refine (HROW.out).mono ?_
  rintro e w1 ⟨v1, rfl, ho, hb_w1⟩
  have HB_w1 : Below w.heap.size w w1 := by first | exact after0 HB_W0 hb_w1 | exact after1 HB_W0 hb_w1 | exact after2 HB_W0 hb_w1 | exact after3 HB_W0 hb_w1 | exact after4 HB_W0 hb_w1 | exact after5 HB_W0 hb_w1
  clear hW0 HROW
  obtain ⟨o, c, rfl, hsl⟩ := OwnL.sl cRw_len (show OwnL w1 W0.heap.size 94 5 cRw v1 hR from ho)
  rw [show hR.length = 1 from rfl] at hsl ⊢
  clear ho
  have HS1 := Lib.hid hsl
  clear hsl
  go_wp2_with fail
  have HA := Lib.hid (bat_any o 1 c hR 3 11 11 w1 HS1.out hR_v (by decide) (by decide) (by decide))
  rw [hR_1] at HA
  refine (HA.out).mono ?_
  rintro e w2 ⟨rfl, hb_w2⟩
  have HB_w2 : Below w.heap.size w w2 := by first | exact after0 HB_w1 hb_w2 | exact after1 HB_w1 hb_w2 | exact after2 HB_w1 hb_w2 | exact after3 HB_w1 hb_w2 | exact after4 HB_w1 hb_w2 | exact after5 HB_w1 hb_w2
  have HS2 := Lib.hid (HS1.out.below hb_w2)
  have HA2 := Lib.hid (bat_any o 1 c hR 3 12 12 w2 HS2.out hR_v (by decide) (by decide) (by decide))
  rw [hR_2] at HA2
  go_wp2_with fail
  refine (HA2.out).mono ?_
  rintro e w3 ⟨rfl, hb_w3⟩
  have HB_w3 : Below w.heap.size w w3 := by first | exact after0 HB_w2 hb_w3 | exact after1 HB_w2 hb_w3 | exact after2 HB_w2 hb_w3 | exact after3 HB_w2 hb_w3 | exact after4 HB_w2 hb_w3 | exact after5 HB_w2 hb_w3
  have HS3 := Lib.hid (HS2.out.below hb_w3)
  have HA3 := Lib.hid (bat_any o 1 c hR 3 500 12 w3 HS3.out hR_v (by decide) (by decide) (by decide))
  rw [hR_3] at HA3
  go_wp2_with fail
  refine (HA3.out).mono ?_
  rintro e w4 ⟨rfl, hb_w4⟩
  have HB_w4 : Below w.heap.size w w4 := by first | exact after0 HB_w3 hb_w4 | exact after1 HB_w3 hb_w4 | exact after2 HB_w3 hb_w4 | exact after3 HB_w3 hb_w4 | exact after4 HB_w3 hb_w4 | exact after5 HB_w3 hb_w4
  go_wp2_with fail
  go_ret
  exact ⟨rfl, HB_w4⟩
end Go.Proofs.Ytmbnhlihcnbebaa
