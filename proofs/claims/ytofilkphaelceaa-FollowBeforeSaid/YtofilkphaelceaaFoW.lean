/-
  The law FollowBefore.
-/
import Derived.Test.YtofilkphaelceaaFoR
import Derived.Test.YtofilkphaelceaaFoT
import Derived.Test.YtofilkphaelceaaLie
set_option linter.unusedVariables false
namespace Fo
/-- what the law gathers: the numbers before some numbers, and these; and more; each once -/
structure WantI (l : List St) (A zs ys : List Int) : Prop where
  nd : ys.Nodup
  mem : ∀ x, x ∈ ys ↔ (∃ a ∈ A, x = a ∨ Rch l [] a x) ∨ x ∈ zs
section
variable {l : List St} {A zs ys : List Int} {x : Int}
theorem WantI.start (l : List St) : WantI l [] [] [] := ⟨List.nodup_nil, fun x => by simp⟩
theorem WantI.put (h : WantI l A zs ys) (hx : ys.contains x = false) : WantI l A (zs ++ [x]) (ys ++ [x]) := by
  rw [List.contains_eq_mem, decide_eq_false_iff_not] at hx
  refine ⟨List.nodup_append.2 ⟨h.nd, by simp, fun a ha b hb => by simp at hb; subst hb; exact fun e => hx (e ▸ ha)⟩, fun y => ?_⟩
  rw [List.mem_append, h.mem, List.mem_append, or_assoc]
theorem WantI.skip (h : WantI l A zs ys) (hx : ys.contains x = true) : WantI l A (zs ++ [x]) ys := by
  rw [List.contains_eq_mem, decide_eq_true_eq] at hx
  refine ⟨h.nd, fun y => ?_⟩
  rw [h.mem, List.mem_append, ← or_assoc]
  constructor
  · exact .inl
  · rintro (h1 | h1)
    · exact h1
    · simp at h1; subst h1; exact (h.mem _).1 hx
theorem WantI.end_ (hv : VOk l) {a : Int} (h : WantI l A (missF l [] a ++ [a]) ys) : WantI l (A ++ [a]) [] ys := by
  refine ⟨h.nd, fun y => ?_⟩
  rw [h.mem]
  simp only [List.mem_append, List.mem_singleton, miss_iff hv, List.not_mem_nil, or_false]
  constructor
  · rintro (⟨b, h1, h2⟩ | h1 | h1)
    · exact ⟨b, .inl h1, h2⟩
    · exact ⟨a, .inr rfl, .inr h1⟩
    · exact ⟨a, .inr rfl, .inl h1⟩
  · rintro ⟨b, h1 | rfl, h2⟩
    · exact .inl ⟨b, h1, h2⟩
    · rcases h2 with h2 | h2
      · exact .inr (.inr h2)
      · exact .inr (.inl h2)
theorem WantI.len (hv : VOk l) (hA : ∀ a ∈ A, ∃ s ∈ l, s.n = a) (hz : ∀ a ∈ zs, ∃ s ∈ l, s.n = a) (h : WantI l A zs ys) : ys.length ≤ 200 := by
  refine Nat.le_trans (nodup_len ys (l.map St.n) h.nd fun x hx => ?_) (by rw [List.length_map]; exact hv.len)
  rw [List.mem_map]
  rcases (h.mem x).1 hx with ⟨a, h1, rfl | h2⟩ | h1
  · exact hA _ h1
  · exact (h2.lt hv).2.1
  · exact hz _ h1
end
end Fo
namespace Go.Proofs.Ytofilkphaelceaa
open Go Go.RowKit Fo Sk Go.Sort
theorem want_all {l : List St} (hv : VOk l) {s : St} (hf : findS l s.n = some s) {ys : List Int} (h : WantI l s.af [] ys) : srt ys = missF l [] s.n := by
  refine srt_eq h.nd (filt_inc hv _) fun x => ?_
  rw [h.mem, miss_iff hv, rch_step hv hf]
  simp only [List.not_mem_nil, or_false]
  constructor
  · rintro ⟨a, h1, rfl | h2⟩
    · exact .inl h1
    · exact .inr ⟨a, h1, h2⟩
  · rintro (h1 | ⟨a, h1, h2⟩)
    · exact ⟨x, h1, .inl rfl⟩
    · exact ⟨a, h1, .inr h2⟩

set_option maxRecDepth 100000 in
set_option maxHeartbeats 8000000 in
theorem before_walk (hso : SortOk) (ao : Option Addr) (n cap : Nat) (l : List St) (t : Int) (w : World) (hs : SlS w ao n cap l) (ht : (Lit.int .u8 t).wf = true) :
    Calls Try.prog 8 #[.slice ao n cap, .int .u8 t] w (Ret w (.bool true)) := by
  obtain rfl := hs.1.len
  have hle := hs.1.le
  have hcap := hs.1.max
  unfold maxLen at hcap
  have HS := Lib.hid hs
  have HSO := Lib.hid hso
  have HB_w : Below w.heap.size w w := Below.refl _ _
  have ht2 : 0 ≤ t ∧ t ≤ 255 := by simpa [Lit.wf, IntKind.min, IntKind.max, IntKind.bits, IntKind.signed] using ht
  obtain ⟨i0, hi, hz0, hz1, hz2⟩ := info_parts info_int
  have HI := Lib.hid hi
  have HZ0 := Lib.hid hz0
  have HZ1 := Lib.hid hz1
  have HZ2 := Lib.hid hz2
  clear hs hso hi hz0 hz1 hz2 ht
  go_enter Try.func8, Try.ntmps8
  go_wp2_with fail
  refine (head_any HSO.out _).mono ?_
  rintro e wa ⟨rfl, hb_wa⟩
  have HB_wa : Below w.heap.size w wa := by first | exact after0 HB_w hb_wa | exact after1 HB_w hb_wa | exact after2 HB_w hb_wa | exact after3 HB_w hb_wa | exact after4 HB_w hb_wa | exact after5 HB_w hb_wa
  go_wp2_with fail
  refine (rfew_any _ _ _ l _ (HS.out.below HB_wa)).mono ?_
  rintro e wb ⟨rfl, hb_wb⟩
  have HB_wb : Below w.heap.size w wb := by first | exact after0 HB_wa hb_wb | exact after1 HB_wa hb_wb | exact after2 HB_wa hb_wb | exact after3 HB_wa hb_wb | exact after4 HB_wa hb_wb | exact after5 HB_wa hb_wb
  cases h1 : fewB l
  · clear h1
    go_wp2_with fail
    all_goals try (exfalso; omega)
    go_ret
    exact ⟨rfl, HB_wb⟩
  clear h1
  by_cases h0 : l.length = 0
  · have hz : ((l.length : Int) == 0) = true := by rw [h0]; rfl
    clear h0
    go_wp2_with fail
    all_goals try (exfalso; omega)
    go_ret
    exact ⟨rfl, HB_wb⟩
  have hz : ((l.length : Int) == 0) = false := beq_eq_false_iff_ne.2 (by omega)
  go_wp2_with fail
  all_goals try (exfalso; omega)
  refine (Valid_any _ _ _ l _ (HS.out.below HB_wb)).mono ?_
  rintro e wc ⟨rfl, hb_wc⟩
  have HB_wc : Below w.heap.size w wc := by first | exact after0 HB_wb hb_wc | exact after1 HB_wb hb_wc | exact after2 HB_wb hb_wc | exact after3 HB_wb hb_wc | exact after4 HB_wb hb_wc | exact after5 HB_wb hb_wc
  cases h2 : valid l
  · clear h2
    go_wp2_with fail
    all_goals try (exfalso; omega)
    go_ret
    exact ⟨rfl, HB_wc⟩
  have HV := Lib.hid (vok h2)
  have hl200 := HV.out.len
  have HMR := Lib.hid (fun (a : Int) (s : St) (hf : findS l a = some s) => missR_ok (d := []) h2 (by rfl) hf)
  clear h2 hz
  obtain ⟨K, hK, hlt⟩ : ∃ K : Nat, t % (l.length : Int) = (K : Int) ∧ K < l.length := by
    have k1 := Int.emod_nonneg t (show ((l.length : Int)) ≠ 0 by omega)
    have k2 := Int.emod_lt_of_pos t (show (0 : Int) < l.length by omega)
    exact ⟨(t % (l.length : Int)).toNat, by omega, by omega⟩
  have hnz : ¬ ((l.length : Int) = 0) := by omega
  have HSW := Lib.hid (HS.out.below HB_wc)
  obtain ⟨b', off, rfl, hb, hrow⟩ := HSW.out.1.get hlt
  obtain ⟨e_0, e_1⟩ := (hrow K hlt).c2
  have HAF := Lib.hid (HS.out.2 _ (List.getElem_mem hlt))
  have HFI := Lib.hid (find_mem HV.out hlt)
  have HPR := Lib.hid (fun a ha => (af_lt HV.out (List.getElem_mem hlt) (a := a) ha).2)
  have HWA := Lib.hid (fun ys => want_all (ys := ys) HV.out (s := l[K]) (find_mem HV.out hlt))
  clear hrow
  generalize l[K] = s at *
  obtain ⟨s0, s1, s2, s3, s4⟩ := s
  dsimp only at e_0 e_1 HFI HPR HWA
  obtain rfl : s4.length = s2 := HAF.out.1.len
  have hs4 : s4.length ≤ 9223372036854775807 := by have h1 := HAF.out.1.le; have h2 := HAF.out.1.max; unfold maxLen at h2; dsimp only at h1 h2; omega
  obtain ⟨NS, hNS⟩ : ∃ N, wc.heap.size = N := ⟨_, rfl⟩
  obtain ⟨W1, hW1, hB1, hZ1, hb1⟩ := boxes1 wc [.int .i64 s0, .slice s1 s4.length s3] 44
  rw [hNS] at hb1
  have H_s := Lib.hid hb1
  have HB_W1 : Below w.heap.size w W1 := after0 HB_wc hB1
  have HBF := Lib.hid (Before_any HSO.out _ _ _ l s0 _ (HS.out.below HB_W1))
  rw [HMR.out _ _ HFI.out] at HBF
  have hNS1 : NS < W1.heap.size := by omega
  obtain ⟨q_s_0, q_s_1⟩ := H_s.out.c2
  go_wp2_with fail
  refine (HBF.out).mono ?_
  rintro e wd ⟨xo, xn, xc, rfl, hx, hb_wd⟩
  have HB_wd : Below w.heap.size w wd := by first | exact after0 HB_W1 hb_wd | exact after1 HB_W1 hb_wd | exact after2 HB_W1 hb_wd | exact after3 HB_W1 hb_wd | exact after4 HB_W1 hb_wd | exact after5 HB_W1 hb_wd
  try clear q_s_0 q_s_1
  have H_s := Lib.hid (Box.below (by first | exact H_s.out | exact H_s.out.alloc _ | exact (H_s.out.alloc _).alloc _ | exact ((H_s.out.alloc _).alloc _).alloc _) hb_wd)
  obtain ⟨q_s_0, q_s_1⟩ := H_s.out.c2
  have HX := Lib.hid hx
  have hNSd : NS < wd.heap.size := Nat.lt_of_lt_of_le hNS1 hb_wd.size
  have HLT := Lib.hid (fun x (hx : x ∈ missF l [] s0) => (((miss_iff HV.out [] s0 x).1 hx).lt HV.out).1)
  have hM0 : (missF l [] s0).length ≤ 200 := Nat.le_trans (by unfold missF; rw [List.length_map]; exact List.length_filter_le _ _) hl200
  generalize missF l [] s0 = M0 at *
  clear hx HBF hW1 hZ1 hB1 hb1 hK hnz h0 ht2 e_0 e_1 hb HSW hNS hNS1
  go_wp2_with fail
  clear q_s_0 q_s_1
  go_loopw [5, 9, 56] (fun up o i wr => ∃ (j : Nat) (ys : List Int), j ≤ s4.length ∧ up = .bool true ∧ i = .int .i64 j ∧ Hid (Below wd.heap.size wd wr) ∧ Hid (OwnL wr wd.heap.size 3 1 cI o ys) ∧ Hid (WantI l (s4.take j) [] ys)) (fun _ _ i _ => s4.length - (intOf i).toNat)
  case atStart => exact ⟨0, [], Nat.zero_le _, rfl, rfl, Below.refl _ _, OwnL.nil, WantI.start l⟩
  case round =>
    obtain ⟨j, ys, hj, rfl, rfl, HB5, HO, HW⟩ := hrel
    have HB_wr : Below w.heap.size w wr := after0 HB_wd HB5.out
    by_cases hlj : j < s4.length
    · have HSI := Lib.hid (show Sl wr 1 cI s1 s4.length s3 s4 from HAF.out.1.below HB_wr)
      obtain ⟨b2, off2, rfl, hb2, hrow2⟩ := HSI.out.get hlj
      have e_0 := (hrow2 j hlj).c1
      rw [Nat.mul_one] at e_0
      obtain ⟨sa, hsa, hsan⟩ := HPR.out _ (List.getElem_mem hlj)
      obtain ⟨sf, hfa⟩ : ∃ s, findS l s4[j] = some s := by
        obtain ⟨k, hk, rfl⟩ := List.getElem_of_mem hsa
        exact ⟨_, hsan ▸ find_mem HV.out hk⟩
      have HTK := Lib.hid (show s4.take (j + 1) = s4.take j ++ [s4[j]] by rw [List.take_add_one, List.getElem?_eq_getElem hlj, Option.toList_some])
      have HPT := Lib.hid (show ∀ a ∈ s4.take j, ∃ t ∈ l, t.n = a from fun a ha => HPR.out a (List.mem_of_mem_take ha))
      have HPZ := Lib.hid (show ∀ x ∈ missF l [] s4[j] ++ [s4[j]], ∃ t ∈ l, t.n = x from fun x hx => by
        rcases List.mem_append.1 hx with hx | hx
        · exact (((miss_iff HV.out [] s4[j] x).1 hx).lt HV.out).2.1
        · simp at hx; subst hx; exact ⟨sa, hsa, hsan⟩)
      have hML : (missF l [] s4[j]).length ≤ 200 := Nat.le_trans (by unfold missF; rw [List.length_map]; exact List.length_filter_le _ _) hl200
      have HBM := Lib.hid (Before_any HSO.out _ _ _ l s4[j] _ (HS.out.below HB_wr))
      rw [HMR.out _ _ hfa] at HBM
      have HEN := Lib.hid (fun ys => WantI.end_ (A := s4.take j) (ys := ys) HV.out (a := s4[j]))
      clear hrow2 hsan hsa hfa
      generalize s4[j] = a at *
      generalize missF l [] a = M at *
      go_wp2_with fail
      refine (HBM.out).mono ?_
      rintro e we ⟨mo, mn, mc, rfl, hm, hb_we⟩
      have HB_we : Below w.heap.size w we := by first | exact after0 HB_wr hb_we | exact after1 HB_wr hb_we | exact after2 HB_wr hb_we | exact after3 HB_wr hb_we | exact after4 HB_wr hb_we | exact after5 HB_wr hb_we
      obtain rfl := hm.len
      have hmc := hm.max
      have hmle := hm.le
      unfold maxLen at hmc
      have HM := Lib.hid hm
      have HOe := Lib.hid (HO.out.below hb_we)
      have HB5e := Lib.hid (after0 HB5.out hb_we)
      have HNB := Lib.hid (show ∀ k, u9.ownBlock = some k → k < we.heap.size from fun k e => by have := (World.ownsRow.lt HO.out k e).2; have := hb_we.size; omega)
      clear hm HBM HO HB5 e_0 hb2 HSI
      have HO0 := Lib.hid (show OwnL (we.alloc (.cells #[] 3)) we.heap.size 3 1 cI (.slice (some ⟨we.heap.size, 0, none⟩) 0 0) [] from OwnL.made (Nat.le_refl _))
      go_wp2_with (at_builtin; refine wpList_append_sl rfl _ _ 23 rfl we.heap.size 3 i0 _ 1 8 Try.underlying23 HI.out HZ0.out HZ1.out HZ2.out rfl (by decide) cI_len cI_one _ [] rfl HO0.out mo M.length mc M rfl (by first | exact HM.out.below (grew1 HB_we) | exact HM.out.below (grew1 (Below.refl _ _))) (by unfold maxLen; simp; omega) (by simp; omega) (by simp) ?_)
      rintro v_w1 w1 ho hg hgr
      have HO_w1 := Lib.hid ho
      have HB_w1 : Below w.heap.size w w1 := (grew1 HB_we).trans (hg _ HB_we.size)
      have hb_w1 := Lib.hid (show Below we.heap.size we w1 from (grew1 (Below.refl _ _)).trans (hg _ (Nat.le_refl _)))
      have hz_w1 : we.heap.size ≤ w1.heap.size := hb_w1.out.size
      clear ho hg hgr HO0
      have HOX := Lib.hid (HO_w1.out.alloc (.cells #[.int .i64 a] 3))
      have HSX : Hid (Sl (w1.alloc (.cells #[.int .i64 a] 3)) 1 cI (some ⟨w1.heap.size, 0, none⟩) 1 1 [a]) := Sl.one (x := a) cI_len (Box.new w1 (cI a) 3)
      go_wp2_with (at_builtin; refine wpList_append_sl rfl _ _ 23 rfl we.heap.size 3 i0 _ 1 8 Try.underlying23 HI.out HZ0.out HZ1.out HZ2.out rfl (by decide) cI_len cI_one _ (M) rfl HOX.out (some ⟨w1.heap.size, 0, none⟩) 1 1 [a] rfl HSX.out (by unfold maxLen; omega) (by omega) (by simp; omega) ?_)
      rintro v_w2 w2 ho hg hgr
      have HO_w2 := Lib.hid ho
      have HB_w2 : Below w.heap.size w w2 := (grew1 HB_w1).trans (hg _ HB_we.size)
      have hb_w2 := Lib.hid (show Below we.heap.size we w2 from (Below.alloc hb_w1.out hz_w1 _).trans (hg _ (Nat.le_refl _)))
      clear ho hg hgr HOX HSX
      obtain ⟨zs, hzs⟩ : ∃ zs, M ++ [a] = zs := ⟨_, rfl⟩
      have hzl : zs.length = M.length + 1 := by rw [← hzs]; simp
      have HOZ := HO_w2.out
      rw [hzs] at HOZ HPZ HEN
      obtain ⟨z, zc, rfl, hz1, hz2⟩ := OwnL.form HOZ (by omega)
      have HZS := Lib.hid HOZ
      have hzl2 : zs.length ≤ 201 := by omega
      clear hzl
      have HO2 := Lib.hid (HOe.out.below hb_w2.out)
      have HB52 := Lib.hid (after0 HB5e.out hb_w2.out)
      have HNZ := Lib.hid (show u9.ownBlock ≠ some z from fun e => by have := HNB.out z e; omega)
      clear HOZ HO_w2 HO_w1 HOe HB5e hb_w1 hb_w2 HNB HM hzs HB_wr
      go_wp2_with fail
      go_loopw [9, 78] (fun o i wv => ∃ (q : Nat) (ys : List Int), q ≤ zs.length ∧ i = .int .i64 q ∧ Hid (Below wd.heap.size wd wv) ∧ Hid (OwnL wv wd.heap.size 3 1 cI o ys) ∧ Hid (o.ownBlock ≠ some z) ∧ Hid (OwnL wv we.heap.size 3 1 cI (.slice (some ⟨z, 0, none⟩) zs.length zc) zs) ∧ Hid (WantI l (s4.take j) (zs.take q) ys)) (fun _ i _ => zs.length - (intOf i).toNat)
      case atStart => exact ⟨0, ys, Nat.zero_le _, rfl, HB52.out, HO2.out, HNZ.out, HZS.out, by rw [List.take_zero]; exact HW.out⟩
      case round =>
        clear HB52 HO2 HNZ HZS HW
        obtain ⟨q, ys2, hq, rfl, HB5, HO, HNZ, HZS, HW⟩ := hrel
        have HB_wr : Below w.heap.size w wr := after0 HB_wd HB5.out
        by_cases hlq : q < zs.length
        · have e_0 := OwnL.cellI HZS.out (List.getElem?_eq_getElem hlq)
          obtain ⟨vo, vc, rfl, hss⟩ := HO.out.sl cI_len
          have HSS := Lib.hid hss
          have hln := HW.out.len HV.out HPT.out (fun a ha => HPZ.out a (List.mem_of_mem_take ha))
          have HTQ := Lib.hid (show zs.take (q + 1) = zs.take q ++ [zs[q]] by rw [List.take_add_one, List.getElem?_eq_getElem hlq, Option.toList_some])
          clear hss
          generalize zs[q] = x at *
          go_wp2_with fail
          refine (rhas_any _ _ _ ys2 x _ HSS.out).mono ?_
          rintro e w3 ⟨rfl, hb_w3⟩
          have HB_w3 : Below w.heap.size w w3 := by first | exact after0 HB_wr hb_w3 | exact after1 HB_wr hb_w3 | exact after2 HB_wr hb_w3 | exact after3 HB_wr hb_w3 | exact after4 HB_wr hb_w3 | exact after5 HB_wr hb_w3
          have HB53 := Lib.hid (after0 HB5.out hb_w3)
          have HO3 := Lib.hid (HO.out.below hb_w3)
          have HZ3 := Lib.hid (HZS.out.below hb_w3)
          have hzz : z < w3.heap.size := (World.ownsRow.lt HZ3.out z rfl).2
          cases hc : ys2.contains x
          · have HW2 := Lib.hid (HW.out.put hc)
            rw [← HTQ.out] at HW2
            clear hc e_0 HSS HW HB5 HO HZS HB_wr
            have HOX := Lib.hid (HO3.out.alloc (.cells #[.int .i64 x] 3))
            have HSX : Hid (Sl (w3.alloc (.cells #[.int .i64 x] 3)) 1 cI (some ⟨w3.heap.size, 0, none⟩) 1 1 [x]) := Sl.one (x := x) cI_len (Box.new w3 (cI x) 3)
            have hszB : wd.heap.size ≤ w3.heap.size := HB53.out.size
            go_wp2_with (at_builtin; refine wpList_append_lie rfl _ _ 23 rfl wd.heap.size 3 i0 _ 1 8 Try.underlying23 HI.out HZ0.out HZ1.out HZ2.out rfl (by decide) cI_len cI_one _ ys2 rfl HOX.out (some ⟨w3.heap.size, 0, none⟩) 1 1 [x] rfl HSX.out (by decide) (by unfold maxLen; omega) (by omega) (by simp; omega) ?_)
            rintro g2 cap2 w4 ho hg hgr hat hgl
            have HB54 := Lib.hid ((Below.alloc HB53.out hszB _).trans (hg _ (Nat.le_refl _)))
            have HO4 := Lib.hid ho
            have HZ4 := Lib.hid (show OwnL w4 we.heap.size 3 1 cI (.slice (some ⟨z, 0, none⟩) zs.length zc) zs from World.ownsRow.kept (HZ3.out.alloc _) hgr (.inr (fun e => HNZ.out e.symm)))
            have HN4 := Lib.hid (show (Value.slice (some ⟨g2, 0, none⟩) (ys2.length + 1) cap2).ownBlock ≠ some z from fun e => by
              have e2 : g2 = z := by simpa [Value.ownBlock] using e
              rcases hat with h | h
              · rw [e2] at h; exact HNZ.out h
              · (try simp at h); omega)
            clear ho hg hgr hat hgl HOX HSX HO3 HB53 HZ3
            go_wp2_with fail
            go_roundw
            case rel =>
              exact ⟨q + 1, ys2 ++ [x], hlq, by go_num, HB54.out, HO4.out, HN4.out, HZ4.out, HW2.out⟩
            case measure => simp [intOf] <;> omega
          · have HW2 := Lib.hid (HW.out.skip hc)
            rw [← HTQ.out] at HW2
            clear hc e_0 HSS HW HB5 HO HZS HB_wr
            go_wp2_with fail
            go_roundw
            case rel => exact ⟨q + 1, ys2, hlq, by go_num, HB53.out, HO3.out, HNZ.out, HZ3.out, HW2.out⟩
            case measure => simp [intOf] <;> omega
        · obtain rfl : q = zs.length := by omega
          rw [List.take_length] at HW
          have HW2 := Lib.hid (HEN.out _ HW.out)
          rw [← HTK.out] at HW2
          clear HW
          go_wp2_with fail
          go_roundw
          case rel => exact ⟨j + 1, ys2, hlj, rfl, by go_num, HB5.out, HO.out, HW2.out⟩
          case measure => simp [intOf] <;> omega
    · obtain rfl : j = s4.length := by omega
      rw [List.take_length] at HW
      have HSE := Lib.hid (HWA.out _ HW.out)
      have hln := HW.out.len HV.out HPR.out (by simp)
      obtain ⟨W6, rfl⟩ : ∃ X, X = wr := ⟨_, rfl⟩
      have HB_W6 := HB_wr
      obtain ⟨vo, vc, rfl, hss⟩ := HO.out.sl cI_len
      have HSS := Lib.hid hss
      have HX6 := Lib.hid (HX.out.below HB5.out)
      have HS6 := Lib.hid (show Box W6 NS 44 [.int .i64 s0, .slice s1 s4.length s3] from (HB5.out.block NS hNSd).trans H_s.out)
      have hx6 := HX6.out.len
      obtain rfl := hx6
      clear hss HO HW HB5 HB_wr HX H_s HWA
      go_wp2_with fail
      go_loopw [5, 94] (fun up i wr => ∃ (q : Nat), q ≤ M0.length ∧ up = .bool true ∧ i = .int .i64 q ∧ Hid (Below W6.heap.size W6 wr)) (fun _ i _ => M0.length - (intOf i).toNat)
      case atStart => exact ⟨0, Nat.zero_le _, rfl, rfl, Below.refl _ _⟩
      case round =>
        obtain ⟨q, hq, rfl, rfl, HB7⟩ := hrel
        have HB_wr : Below w.heap.size w wr := after0 HB_W6 HB7.out
        by_cases hlq : q < M0.length
        · have H_s := Lib.hid (HS6.out.below HB7.out)
          obtain ⟨b3, off3, rfl, hb3, hrow3⟩ := (HX6.out.below HB7.out).get hlq
          have e_0 := (hrow3 q hlq).c1
          rw [Nat.mul_one] at e_0
          have hxl := HLT.out _ (List.getElem_mem hlq)
          clear hrow3
          generalize M0[q] = x at *
          obtain ⟨q_s_0, q_s_1⟩ := H_s.out.c2
          go_wp2_with fail
          go_roundw
          case rel => exact ⟨q + 1, hlq, rfl, by go_num, HB7.out⟩
          case measure => simp [intOf] <;> omega
        · obtain rfl : q = M0.length := by omega
          have HS7 := Lib.hid (HSS.out.below HB7.out)
          have HX7 := Lib.hid (HX6.out.below HB7.out)
          go_wp2_with fail
          refine (sorted_any _ _ _ ys _ HS7.out (by omega)).mono ?_
          rintro e w8 ⟨v, rfl, ho, hb_w8⟩
          have HB_w8 : Below w.heap.size w w8 := by first | exact after0 HB_wr hb_w8 | exact after1 HB_wr hb_w8 | exact after2 HB_wr hb_w8 | exact after3 HB_wr hb_w8 | exact after4 HB_wr hb_w8 | exact after5 HB_wr hb_w8
          obtain ⟨so, sc, rfl, hs8⟩ := ho.sl cI_len
          have HS8 := Lib.hid hs8
          have HX8 := Lib.hid (HX7.out.below hb_w8)
          have HI2 := Lib.hid (rints_any _ _ _ _ _ _ M0 (srt ys) _ HX8.out HS8.out)
          rw [HSE.out, decide_eq_true rfl] at HI2
          rw [HSE.out]
          clear hs8 ho
          go_wp2_with fail
          refine (HI2.out).mono ?_
          rintro e w9 ⟨rfl, hb_w9⟩
          have HB_w9 : Below w.heap.size w w9 := by first | exact after0 HB_w8 hb_w9 | exact after1 HB_w8 hb_w9 | exact after2 HB_w8 hb_w9 | exact after3 HB_w8 hb_w9 | exact after4 HB_w8 hb_w9 | exact after5 HB_w8 hb_w9
          go_wp2_with fail
          go_ret
          exact ⟨rfl, HB_w9⟩
end Go.Proofs.Ytofilkphaelceaa
