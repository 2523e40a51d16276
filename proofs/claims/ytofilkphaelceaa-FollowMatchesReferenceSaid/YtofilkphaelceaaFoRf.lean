/-
  The reference functions of the layer 'follow', walked: Missing, Before.
-/
import Derived.Test.YtofilkphaelceaaFoRe
import Derived.Laws.MakeOwn
set_option linter.unusedVariables false
namespace Fo
/-- a row of tests: which steps have a number of M -/
def Need (l : List St) (M : List Int) (B : List Bool) : Prop := B.length = l.length ∧ ∀ j (hj : j < l.length), B[j]? = some (M.contains l[j].n)
theorem Need.start (l : List St) : Need l [] (List.replicate l.length false) := ⟨by simp, fun j hj => by simp [hj]⟩
theorem num_inj {l : List St} (hv : VOk l) {i j : Nat} (hi : i < l.length) (hj : j < l.length) (h : l[i].n = l[j].n) : i = j := by
  have := List.pairwise_iff_getElem.1 hv.inc
  rcases Nat.lt_trichotomy i j with h1 | h1 | h1
  · have := this i j hi hj h1; omega
  · exact h1
  · have := this j i hj hi h1; omega
theorem Need.set {l : List St} {M : List Int} {B : List Bool} (h : Need l M B) (hv : VOk l) {q : Nat} (hq : q < l.length) {a : Int} (ha : l[q].n = a) : Need l (M ++ [a]) (B.set q true) := by
  refine ⟨by rw [List.length_set]; exact h.1, fun j hj => ?_⟩
  rw [List.getElem?_set, h.2 j hj]
  by_cases e : q = j
  · subst e
    simp [ha, h.1, hq]
  · have : l[j].n ≠ a := fun e2 => e (num_inj hv hq hj (by omega))
    simp [e, this]
theorem mark_behind {D : List Int} {t : Int} : ∀ (post : List St), (∀ s ∈ post, s.n ≠ t) → markF post D t = [t]
  | [], _ => rfl
  | s :: post, h => by
    have ih := mark_behind (D := D) post (fun x hx => h x (List.mem_cons_of_mem _ hx))
    have hs := h s List.mem_cons_self
    unfold markF at ih ⊢
    rw [List.foldr_cons, ih, if_neg (by simp [hs])]
theorem mark_first {l : List St} (hv : VOk l) {D : List Int} {k : Nat} (hk : k < l.length) : markF (l.drop (k + 1)) D l[k].n = [l[k].n] := mark_behind _ fun s hs => by
  obtain ⟨i, hi, rfl⟩ := List.getElem_of_mem hs
  rw [List.length_drop] at hi
  rw [List.getElem_drop]
  have := List.pairwise_iff_getElem.1 hv.inc k (k + 1 + i) hk (by omega) (by omega)
  omega
theorem mark_step {l : List St} {D : List Int} {t : Int} {i : Nat} (hi : i < l.length) : markF (l.drop i) D t = if (markF (l.drop (i + 1)) D t).contains l[i].n then markF (l.drop (i + 1)) D t ++ l[i].af.filter (fun a => !D.contains a) else markF (l.drop (i + 1)) D t := by
  rw [List.drop_eq_getElem_cons hi]
  rfl
theorem filt_succ {D af : List Int} {m : Nat} (h : m < af.length) : (af.take (m + 1)).filter (fun a => !D.contains a) = if D.contains af[m] then (af.take m).filter (fun a => !D.contains a) else (af.take m).filter (fun a => !D.contains a) ++ [af[m]] := by
  rw [List.take_add_one, List.getElem?_eq_getElem h, Option.toList_some, List.filter_append]
  cases hc : D.contains af[m] <;> simp only [List.filter_cons, hc] <;> simp
def missTo (l : List St) (M : List Int) (k : Nat) : List Int := ((l.take k).filter fun s => M.contains s.n).map St.n
theorem missTo_succ {l : List St} {M : List Int} {k : Nat} (h : k < l.length) : missTo l M (k + 1) = if M.contains l[k].n then missTo l M k ++ [l[k].n] else missTo l M k := by
  unfold missTo
  rw [List.take_add_one, List.getElem?_eq_getElem h, Option.toList_some, List.filter_append, List.map_append]
  cases hc : M.contains l[k].n <;> simp only [List.filter_cons, hc] <;> simp
theorem missTo_len (l : List St) (M : List Int) (k : Nat) : (missTo l M k).length ≤ k := by
  unfold missTo
  rw [List.length_map]
  exact Nat.le_trans (List.length_filter_le _ _) (by rw [List.length_take]; omega)
theorem missTo_end {l : List St} (hv : VOk l) {D : List Int} {k : Nat} (hk : k < l.length) : missTo l (markF l D l[k].n) k = missF l D l[k].n := by
  have hinc := List.pairwise_iff_getElem.1 hv.inc
  have h1 : ∀ s ∈ l.take k, s.n ≠ l[k].n := fun s hs => by
    obtain ⟨i, hi, rfl⟩ := List.getElem_of_mem hs
    rw [List.length_take] at hi
    rw [List.getElem_take]
    have := hinc i k (by omega) hk (by omega)
    omega
  have h2 : ∀ s ∈ l.drop k, (s.n != l[k].n && (markF l D l[k].n).contains s.n) = false := fun s hs => by
    obtain ⟨i, hi, rfl⟩ := List.getElem_of_mem hs
    rw [List.length_drop] at hi
    rw [List.getElem_drop]
    rcases Nat.eq_zero_or_pos i with rfl | h0
    · simp
    · have h3 := hinc k (k + i) hk (by omega) (by omega)
      rw [Bool.and_eq_false_iff]
      refine .inr ?_
      rw [List.contains_eq_mem, decide_eq_false_iff_not, mark_iff hv]
      rintro (h4 | h4)
      · omega
      · have := (h4.lt hv).1; omega
  unfold missTo missF
  have hp : ∀ p : St → Bool, l.filter p = (l.take k).filter p ++ (l.drop k).filter p := fun p => by rw [← List.filter_append, List.take_append_drop]
  rw [hp (fun s => s.n != l[k].n && (markF l D l[k].n).contains s.n), show (l.drop k).filter (fun s => s.n != l[k].n && (markF l D l[k].n).contains s.n) = [] from List.filter_eq_nil_iff.2 (fun s hs => by rw [h2 s hs]; simp), List.append_nil]
  congr 1
  refine List.filter_congr fun s hs => ?_
  rw [bne_iff_ne.2 (h1 s hs), Bool.true_and]
end Fo
namespace Go.Proofs.Ytofilkphaelceaa
open Go Go.RowKit Fo Sk Go.Sort
theorem info_bool : (Try.prog.info? 4).map (fun i => (i.zero, i.size, i.bytes)) = some (some (.bool false), 1, 1) := by kernel_rfl
theorem make_bools (n : Nat) (h : n ≤ 1000) (W : World) : (Instr.makeSlice 65 (.int .i64 (n : Int)) (.int .i64 (n : Int))).run Try.prog W = .ok (.slice (some ⟨W.heap.size, 0, none⟩) n n) (W.alloc (.cells ((List.replicate n false).map Value.bool).toArray 4)) := by
  obtain ⟨i0, hi, hz0, hz1, hz2⟩ := info_parts info_bool
  have := run_make (P := Try.prog) W 65 4 i0 _ Try.underlying65 hi hz0 .i64 .i64 n n (by omega) (Int.le_refl _) (by rw [hz2]; omega) (by omega)
  simp only [Int.toNat_natCast, hz1, Nat.mul_one] at this
  rw [this]
  have : madeCells (Value.bool false).cells n = ((List.replicate n false).map Value.bool).toArray := by
    rw [← Array.toList_inj]
    exact (toList_madeCells_one _ n).trans (by simp)
  rw [this]

set_option maxRecDepth 100000 in
set_option maxHeartbeats 8000000 in
theorem rmissing_any (ao : Option Addr) (n cap : Nat) (l : List St) (bo : Option Addr) (m capb : Nat) (d : List Int) (t : Int) (w : World) (hs : SlS w ao n cap l) (hd : Sl w 1 cI bo m capb d) :
    Calls Try.prog 23 #[.slice ao n cap, .slice bo m capb, .int .i64 t] w (IntsE w (missR l d t)) := by
  obtain rfl := hs.1.len
  obtain rfl := hd.len
  have hcap := hs.1.max
  have hle := hs.1.le
  have hcapb := hd.max
  have hleb := hd.le
  unfold maxLen at hcap hcapb
  have HS := Lib.hid hs
  have HD := Lib.hid hd
  have HB_w : Below w.heap.size w w := Below.refl _ _
  have HBAD := Lib.hid (@missR_bad l d t)
  have HNO := Lib.hid (@missR_none l d t)
  have HOK := Lib.hid (fun s => @missR_ok l d t s)
  obtain ⟨i0, hi, hz0, hz1, hz2⟩ := info_parts info_int
  have HI := Lib.hid hi
  have HZ0 := Lib.hid hz0
  have HZ1 := Lib.hid hz1
  have HZ2 := Lib.hid hz2
  clear hs hd hi hz0 hz1 hz2
  go_enter Try.func23, Try.ntmps23
  go_wp2_with fail
  refine (rvalid_any _ _ _ l _ HS.out).mono ?_
  rintro e wa ⟨rfl, hb_wa⟩
  have HB_wa : Below w.heap.size w wa := by first | exact after0 HB_w hb_wa | exact after1 HB_w hb_wa | exact after2 HB_w hb_wa | exact after3 HB_w hb_wa | exact after4 HB_w hb_wa | exact after5 HB_w hb_wa
  cases h1 : valid l
  · have HP := Lib.hid (HBAD.out (.inl h1))
    clear h1
    go_wp2_with fail
    refine (rdone_any _ _ _ d _ (HD.out.below HB_wa)).mono ?_
    rintro e wb ⟨rfl, hb_wb⟩
    have HB_wb : Below w.heap.size w wb := by first | exact after0 HB_wa hb_wb | exact after1 HB_wa hb_wb | exact after2 HB_wa hb_wb | exact after3 HB_wa hb_wb | exact after4 HB_wa hb_wb | exact after5 HB_wa hb_wb
    cases isDone d
    all_goals
      go_wp2_with fail
      go_ret2
      exact ⟨none, 0, 0, by rw [HP.out]; rfl, by rw [HP.out]; exact Sl.nil, HB_wb⟩
  go_wp2_with fail
  refine (rdone_any _ _ _ d _ (HD.out.below HB_wa)).mono ?_
  rintro e wb ⟨rfl, hb_wb⟩
  have HB_wb : Below w.heap.size w wb := by first | exact after0 HB_wa hb_wb | exact after1 HB_wa hb_wb | exact after2 HB_wa hb_wb | exact after3 HB_wa hb_wb | exact after4 HB_wa hb_wb | exact after5 HB_wa hb_wb
  cases h2 : isDone d
  · have HP := Lib.hid (HBAD.out (.inr h2))
    clear h1 h2
    go_wp2_with fail
    go_ret2
    exact ⟨none, 0, 0, by rw [HP.out]; rfl, by rw [HP.out]; exact Sl.nil, HB_wb⟩
  have HV := Lib.hid (vok h1)
  have hl200 := HV.out.len
  have HX := Lib.hid (rindex_any ao l.length cap l t wb (HS.out.below HB_wb).1)
  rcases idxS_cases l t with ⟨e1, e2⟩ | ⟨K, hK, e1, e2, e3⟩
  · have HP := Lib.hid (HNO.out h1 h2 e2)
    rw [e1] at HX
    clear h1 h2 e1 e2 HBAD HNO HOK
    go_wp2_with fail
    refine (HX.out).mono ?_
    rintro e wc ⟨rfl, hb_wc⟩
    have HB_wc : Below w.heap.size w wc := by first | exact after0 HB_wb hb_wc | exact after1 HB_wb hb_wc | exact after2 HB_wb hb_wc | exact after3 HB_wb hb_wc | exact after4 HB_wb hb_wc | exact after5 HB_wb hb_wc
    go_wp2_with fail
    go_ret2
    exact ⟨none, 0, 0, by rw [HP.out]; rfl, by rw [HP.out]; exact Sl.nil, HB_wc⟩
  have HP := Lib.hid (HOK.out _ h1 h2 e3)
  have HMF := Lib.hid (mark_first HV.out (D := d) hK)
  have HME := Lib.hid (missTo_end HV.out (D := d) hK)
  have HN0 := Lib.hid ((Need.start l).set HV.out hK e2)
  rw [e2] at HMF HME
  rw [← HME.out] at HP
  rw [e1] at HX
  clear h1 h2 e1 e2 e3 HBAD HNO HOK HME
  go_wp2_with fail
  refine (HX.out).mono ?_
  rintro e wc ⟨rfl, hb_wc⟩
  have HB_wc : Below w.heap.size w wc := by first | exact after0 HB_wb hb_wc | exact after1 HB_wb hb_wc | exact after2 HB_wb hb_wc | exact after3 HB_wb hb_wc | exact after4 HB_wb hb_wc | exact after5 HB_wb hb_wc
  have hKi : ¬ (K : Int) < 0 := by omega
  obtain ⟨g, hg⟩ : ∃ g, wc.heap.size = g := ⟨_, rfl⟩
  obtain ⟨W1, hW1⟩ : ∃ X, wc.alloc (.cells ((List.replicate l.length false).map Value.bool).toArray 4) = X := ⟨_, rfl⟩
  have hmk := make_bools l.length (by omega) wc
  have hX1 := Box.new wc ((List.replicate l.length false).map Value.bool) 4
  rw [hW1, hg] at hX1
  rw [hW1, hg] at hmk
  have HB_W1 : Below w.heap.size w W1 := hW1 ▸ grew1 HB_wc
  have hwg : w.heap.size ≤ g := hg ▸ HB_wc.size
  have f_1 := hX1.frozen K
  have d_1 : W1.cell? ⟨g, K, none⟩ = some (.bool false) := hX1.cell (by simp [hK])
  have hX2 := hX1.set K (.bool true)
  rw [← List.map_set] at hX2
  obtain ⟨W2, hW2⟩ : ∃ X, W1.setCell ⟨g, K, none⟩ (.bool true) = X := ⟨_, rfl⟩
  rw [hW2] at hX2
  have HB_W2 : Below w.heap.size w W2 := hW2 ▸ HB_W1.setCell (p := ⟨g, K, none⟩) hwg _
  have HX2 := Lib.hid hX2
  generalize (List.replicate l.length false).set K true = B0 at *
  rw [List.nil_append, ← HMF.out] at HN0
  clear hX1 hX2 hg hW1 HX
  have hli : (l.length : Int) = (l.length : Int) := rfl
  go_wp2_with fail
  clear hW2 f_1 d_1 hmk HB_W1 HMF
  go_loopw [12] (fun i wr => ∃ (c : Nat) (z : Int) (B : List Bool), c ≤ K + 1 ∧ i = .int .i64 z ∧ z = (c : Int) - 1 ∧ Hid (Below w.heap.size w wr) ∧ Hid (Box wr g 4 (B.map Value.bool)) ∧ Hid (Need l (markF (l.drop c) d t) B)) (fun i _ => (intOf i + 1).toNat)
  case atStart => exact ⟨K + 1, _, B0, Nat.le_refl _, rfl, by omega, HB_W2, HX2.out, HN0.out⟩
  case round =>
    clear HX2 HN0 HB_W2
    obtain ⟨c, z, B, hc, rfl, hz, HBB, HXB, HNB⟩ := hrel
    have HB_wr := HBB.out
    rcases c with _ | i
    · obtain rfl : z = -1 := by omega
      rw [List.drop_zero] at HNB
      obtain ⟨W3, rfl⟩ : ∃ X, X = wr := ⟨_, rfl⟩
      have HB_W3 := HB_wr
      clear hz HB_wr
      generalize markF l d t = M at *
      go_wp2_with fail
      all_goals try (exfalso; omega)
      go_loopw [14, 15] (fun o i wv => ∃ (k : Nat), k ≤ K ∧ i = .int .i64 k ∧ Hid (Below W3.heap.size W3 wv) ∧ Hid (OwnL wv W3.heap.size 3 1 cI o (missTo l M k))) (fun _ i _ => K - (intOf i).toNat)
      case atStart => exact ⟨0, Nat.zero_le _, rfl, Below.refl _ _, OwnL.nil⟩
      case round =>
        obtain ⟨k, hk, rfl, HB5, HO⟩ := hrel
        have HB_wr := after0 HB_W3 HB5.out
        by_cases hlt : k < K
        · have hkl : k < l.length := by omega
          obtain ⟨b', off, rfl, hb, hrow⟩ := HS.out.1.get hkl
          have e_0 := (HB_wr.cell (p := ⟨b', off + k * 2, none⟩) hb).trans (hrow k hkl).c2.1
          have hni := HNB.out.2 k hkl
          have HST := Lib.hid (missTo_succ (M := M) hkl)
          have hyl := missTo_len l M k
          have hXB := HXB.out.below HB5.out
          clear hrow
          generalize l[k] = s at *
          obtain ⟨s0, s1, s2, s3, s4⟩ := s
          dsimp only at e_0 hni HST
          generalize missTo l M k = ys at *
          cases hm : M.contains s0
          · rw [hm] at hni HST
            have f_0 : wr.cell? ⟨g, k, none⟩ = some (.bool false) := hXB.cell (by rw [List.getElem?_map, hni]; rfl)
            clear hm hni hXB
            go_wp2_with fail
            all_goals try (exfalso; omega)
            go_roundw
            case rel => exact ⟨k + 1, hlt, by go_num, HB5.out, by rw [HST.out]; exact HO.out⟩
            case measure => simp [intOf] <;> omega
          · rw [hm] at hni HST
            have f_0 : wr.cell? ⟨g, k, none⟩ = some (.bool true) := hXB.cell (by rw [List.getElem?_map, hni]; rfl)
            have HST2 := Lib.hid (show missTo l M (k + 1) = ys ++ [s0] by rw [HST.out]; rfl)
            clear hm hni hXB HST
            have HOX := Lib.hid (HO.out.alloc (.cells #[.int .i64 s0] 3))
            have HSX : Hid (Sl (wr.alloc (.cells #[.int .i64 s0] 3)) 1 cI (some ⟨wr.heap.size, 0, none⟩) 1 1 [s0]) := Sl.one (x := s0) cI_len (Box.new wr (cI s0) 3)
            have hsz : W3.heap.size ≤ (wr.alloc (.cells #[.int .i64 s0] 3)).heap.size := by have := HB5.out.size; simp; omega
            go_wp2_with (at_builtin; refine wpList_append_sl rfl _ _ 23 rfl W3.heap.size 3 i0 _ 1 8 Try.underlying23 HI.out HZ0.out HZ1.out HZ2.out rfl (by decide) cI_len cI_one _ ys rfl HOX.out (some ⟨wr.heap.size, 0, none⟩) 1 1 [s0] rfl HSX.out (by unfold maxLen; omega) (by omega) hsz ?_)
            rintro v' w6 ho6 hg6 hgr6
            have HB_6 : Below W3.heap.size W3 w6 := (grew1 HB5.out).trans (hg6 _ (Nat.le_refl _))
            have HO6 := Lib.hid ho6
            clear hg6 hgr6 ho6 HOX HSX hsz e_0 f_0 HO
            go_wp2_with fail
            all_goals try (exfalso; omega)
            go_roundw
            case rel => exact ⟨k + 1, hlt, by go_num, HB_6, by rw [HST2.out]; exact HO6.out⟩
            case measure => simp [intOf] <;> omega
        · obtain rfl : k = K := by omega
          obtain ⟨so, sc, rfl, hsc⟩ := HO.out.sl cI_len
          have HSC := Lib.hid hsc
          clear hsc HO
          go_wp2_with fail
          all_goals try (exfalso; omega)
          go_ret2
          exact ⟨_, _, _, by rw [HP.out]; rfl, by rw [HP.out]; exact HSC.out, HB_wr⟩
    · obtain rfl : z = (i : Int) := by omega
      have hil : i < l.length := by omega
      have HST := Lib.hid (mark_step (D := d) (t := t) hil)
      obtain ⟨b', off, rfl, hb, hrow⟩ := HS.out.1.get hil
      have HE1 := Lib.hid (hrow i hil).c2.2
      have HSO := Lib.hid (HS.out.2 _ (List.getElem_mem hil))
      have hni := HNB.out.2 i hil
      have HPR := Lib.hid (HV.out.pre i hil)
      clear hrow hz
      generalize markF (l.drop (i + 1)) d t = M at *
      generalize hsx : l[i] = s at *
      obtain ⟨s0, s1, s2, s3, s4⟩ := s
      obtain rfl : s4.length = s2 := HSO.out.1.len
      dsimp only at HE1 HST hni HPR
      have HSN := Lib.hid (show l[i].n = s0 by rw [hsx])
      obtain ⟨W3, rfl⟩ : ∃ X, X = wr := ⟨_, rfl⟩
      have hii : 0 ≤ (i : Int) := by omega
      clear hsx HB_wr
      cases hm : M.contains s0
      · rw [hm] at HST hni
        have HST2 := Lib.hid (show markF (l.drop i) d t = M by rw [HST.out]; rfl)
        have HNI := Lib.hid hni
        clear HST hm hni
        go_wp2_with fail
        all_goals try (exfalso; omega)
        go_loopw [13] (fun j wv => j = .int .i64 0 ∧ Hid (Below W3.heap.size W3 wv)) (fun j _ => 0)
        case atStart => exact ⟨rfl, Below.refl _ _⟩
        case round =>
          obtain ⟨rfl, HB5⟩ := hrel
          have HB_wr := after0 HBB.out HB5.out
          have e_1 := (HB_wr.cell (p := ⟨b', off + i * 2 + 1, none⟩) hb).trans HE1.out
          have hXB := HXB.out.below HB5.out
          have f_0 : wr.cell? ⟨g, i, none⟩ = some (.bool false) := hXB.cell (by rw [List.getElem?_map, HNI.out]; rfl)
          go_wp2_with fail
          all_goals try (exfalso; omega)
          go_roundw
          case rel => exact ⟨i, (i : Int) - 1, B, by omega, by go_num, rfl, HB_wr, hXB, by rw [HST2.out]; exact HNB.out⟩
          case measure => simp [intOf] <;> omega
      · rw [hm] at HST hni
        have HST2 := Lib.hid (show markF (l.drop i) d t = M ++ s4.filter (fun a => !d.contains a) by rw [HST.out]; rfl)
        have HM := Lib.hid hm
        clear HST hm hni
        go_wp2_with fail
        all_goals try (exfalso; omega)
        go_loopw [13] (fun j wv => ∃ (m : Nat) (B' : List Bool), m ≤ s4.length ∧ j = .int .i64 m ∧ Hid (Below w.heap.size w wv) ∧ Hid (Box wv g 4 (B'.map Value.bool)) ∧ Hid (Need l (M ++ (s4.take m).filter (fun a => !d.contains a)) B')) (fun j _ => s4.length - (intOf j).toNat)
        case atStart => exact ⟨0, B, Nat.zero_le _, rfl, HBB.out, HXB.out, by rw [List.take_zero, List.filter_nil, List.append_nil]; exact HNB.out⟩
        case round =>
          clear HBB HXB HNB
          obtain ⟨m, B2, hm2, rfl, HB5, HXB, HNB⟩ := hrel
          have HB_wr := HB5.out
          have e_1 := (HB_wr.cell (p := ⟨b', off + i * 2 + 1, none⟩) hb).trans HE1.out
          have HE2 := Lib.hid e_1
          have hni := HNB.out.2 i hil
          rw [HSN.out, show (M ++ (s4.take m).filter (fun a => !d.contains a)).contains s0 = true by
            rw [List.contains_eq_mem]
            refine decide_eq_true (List.mem_append_left _ ?_)
            have := HM.out
            rw [List.contains_eq_mem] at this
            exact of_decide_eq_true this] at hni
          have f_0 : wr.cell? ⟨g, i, none⟩ = some (.bool true) := HXB.out.cell (by rw [List.getElem?_map, hni]; rfl)
          clear hni
          by_cases hms : m < s4.length
          · have hsl : Sl w 1 cI s1 s4.length s3 s4 := HSO.out.1
            have hslm := hsl.max
            have hsll := hsl.le
            unfold maxLen at hslm
            obtain ⟨b3, off3, rfl, hb3, hrow3⟩ := hsl.get hms
            have g_0 := (HB_wr.cell (p := ⟨b3, off3 + m * 1, none⟩) hb3).trans (hrow3 m hms).c1
            rw [Nat.mul_one] at g_0
            have HG0 := Lib.hid g_0
            obtain ⟨q, hq, hqi, hqa⟩ := HPR.out s4[m] (List.getElem_mem hms)
            have HFS := Lib.hid (filt_succ (D := d) hms)
            have HH := Lib.hid (rhas_any bo d.length capb d s4[m] wr (HD.out.below HB_wr))
            have HQ : Hid (idxS l s4[m] = (q : Int)) := idxS_hit hq hqa (fun j hj hjq he => by have := num_inj HV.out hj hq (by omega); omega)
            have HQA := Lib.hid hqa
            have HXI := Lib.hid (fun W (hW : Below w.heap.size w W) => rindex_any _ _ _ l s4[m] W (HS.out.below hW).1)
            rw [HQ.out] at HXI
            clear hrow3 hsl hqa HPR HQ
            generalize s4[m] = a at *
            cases hc : d.contains a
            · rw [hc] at HH HFS
              have HFS2 := Lib.hid (show (s4.take (m + 1)).filter (fun a => !d.contains a) = (s4.take m).filter (fun a => !d.contains a) ++ [a] by rw [HFS.out]; rfl)
              clear hc HFS
              go_wp2_with fail
              all_goals try (exfalso; omega)
              clear e_1 f_0 g_0
              refine (HH.out).mono ?_
              rintro e wc ⟨rfl, hb_wc⟩
              have HB_wc : Below w.heap.size w wc := by first | exact after0 HB_wr hb_wc | exact after1 HB_wr hb_wc | exact after2 HB_wr hb_wc | exact after3 HB_wr hb_wc | exact after4 HB_wr hb_wc | exact after5 HB_wr hb_wc
              have e_1 := (hb_wc.cell (p := ⟨b', off + i * 2 + 1, none⟩) (Nat.lt_of_lt_of_le hb HB_wr.size)).trans HE2.out
              have g_0 := (hb_wc.cell (p := ⟨b3, off3 + m, none⟩) (Nat.lt_of_lt_of_le hb3 HB_wr.size)).trans HG0.out
              go_wp2_with fail
              all_goals try (exfalso; omega)
              clear e_1 g_0
              refine (HXI.out _ HB_wc).mono ?_
              rintro e wd ⟨rfl, hb_wd⟩
              have HB_wd : Below w.heap.size w wd := by first | exact after0 HB_wc hb_wd | exact after1 HB_wc hb_wd | exact after2 HB_wc hb_wd | exact after3 HB_wc hb_wd | exact after4 HB_wc hb_wd | exact after5 HB_wc hb_wd
              have hX4 := (HXB.out.below hb_wc).below hb_wd
              have f_1 := hX4.frozen q
              have hBl := HNB.out.1
              have d_1 : wd.cell? ⟨g, q, none⟩ = some (.bool B2[q]) := hX4.cell (by simp)
              have hX5 := hX4.set q (.bool true)
              rw [← List.map_set] at hX5
              have hN5 := HNB.out.set HV.out hq HQA.out
              rw [List.append_assoc, ← HFS2.out] at hN5
              obtain ⟨W2, hW2⟩ : ∃ X, wd.setCell ⟨g, q, none⟩ (.bool true) = X := ⟨_, rfl⟩
              rw [hW2] at hX5
              have HB_W2 : Below w.heap.size w W2 := hW2 ▸ HB_wd.setCell (p := ⟨g, q, none⟩) hwg _
              have HX5 := Lib.hid hX5
              have HN5 := Lib.hid hN5
              clear hX4 hX5 hN5
              generalize B2.set q true = B3 at *
              go_wp2_with fail
              all_goals try (exfalso; omega)
              clear hW2 f_1 d_1
              go_roundw
              case rel => exact ⟨m + 1, B3, hms, by go_num, HB_W2, HX5.out, HN5.out⟩
              case measure => simp [intOf] <;> omega
            · rw [hc] at HH HFS
              have HFS2 := Lib.hid (show (s4.take (m + 1)).filter (fun a => !d.contains a) = (s4.take m).filter (fun a => !d.contains a) by rw [HFS.out]; rfl)
              clear hc HFS
              go_wp2_with fail
              all_goals try (exfalso; omega)
              clear e_1 f_0 g_0
              refine (HH.out).mono ?_
              rintro e wc ⟨rfl, hb_wc⟩
              have HB_wc : Below w.heap.size w wc := by first | exact after0 HB_wr hb_wc | exact after1 HB_wr hb_wc | exact after2 HB_wr hb_wc | exact after3 HB_wr hb_wc | exact after4 HB_wr hb_wc | exact after5 HB_wr hb_wc
              have hX4 := Lib.hid (HXB.out.below hb_wc)
              go_wp2_with fail
              all_goals try (exfalso; omega)
              go_roundw
              case rel => exact ⟨m + 1, B2, hms, by go_num, HB_wc, hX4.out, by rw [HFS2.out]; exact HNB.out⟩
              case measure => simp [intOf] <;> omega
          · obtain rfl : m = s4.length := by omega
            rw [List.take_length] at HNB
            go_wp2_with fail
            all_goals try (exfalso; omega)
            go_roundw
            case rel => exact ⟨i, (i : Int) - 1, B2, by omega, by go_num, rfl, HB_wr, HXB.out, by rw [HST2.out]; exact HNB.out⟩
            case measure => simp [intOf] <;> omega

set_option maxRecDepth 100000 in
theorem rbefore_any (ao : Option Addr) (n cap : Nat) (l : List St) (t : Int) (w : World) (hs : SlS w ao n cap l) :
    Calls Try.prog 25 #[.slice ao n cap, .int .i64 t] w (IntsE w (missR l [] t)) := by
  have HM := Lib.hid (rmissing_any ao n cap l none 0 0 [] t w hs Sl.nil)
  clear hs
  generalize missR l [] t = r at *
  go_enter Try.func25, Try.ntmps25
  go_wp2_with fail
  refine HM.out.mono ?_
  rintro e w1 ⟨ro, rn, rc, rfl, hr, hb1⟩
  go_wp2_with fail
  go_ret2
  exact ⟨_, _, _, rfl, hr, hb1⟩
end Go.Proofs.Ytofilkphaelceaa
