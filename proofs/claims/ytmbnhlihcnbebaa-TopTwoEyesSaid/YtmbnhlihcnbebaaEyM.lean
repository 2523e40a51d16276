/-
  Walks of the layer 'eyes': At.
-/
import Derived.RangeFuncCalls
import Derived.Test.YtmbnhlihcnbebaaEyL
import Derived.Test.YtmbnhlihcnbebaaRalx
import Derived.Test.YtmbnhlihcnbebaaMixIn
import Derived.Test.YtmbnhlihcnbebaaAppIn
set_option linter.unusedVariables false
namespace Ey
theorem stS_snoc (l : List Ac) (a : Ac) : stS (l ++ [a]) = (actS (stS l) a).1 := by unfold stS; rw [List.foldl_append]; rfl
theorem stS_sor (l : List Ac) : Sor (stS l) ∧ (stS l).length ≤ l.length := by
  unfold stS
  suffices ∀ L : List Dg, Sor L → Sor (l.foldl (fun L a => (actS L a).1) L) ∧ (l.foldl (fun L a => (actS L a).1) L).length ≤ L.length + l.length by simpa using this [] List.Pairwise.nil
  induction l with
  | nil => intro L h; exact ⟨h, Nat.le_refl _⟩
  | cons a l ih =>
    intro L h
    rw [List.foldl_cons]
    have := ih _ (h.act a)
    have h2 := act_len h a
    refine ⟨this.1, Nat.le_trans this.2 ?_⟩
    rw [List.length_cons]; omega
theorem atR_bad {l : List Ac} {t : Int} (h : validL l = false ∨ timeB t = false) : atR l t = ([], 1) := by unfold atR; rw [if_neg]; rcases h with h | h <;> simp [h]
theorem atR_ok {l : List Ac} {t : Int} (h1 : validL l = true) (h2 : timeB t = true) : atR l t = (stS (untilL l t), 0) := by unfold atR; rw [if_pos (by simp [h1, h2])]
theorem validL_iff {l : List Ac} : validL l = true ↔ (l.length ≤ 200 ∧ (∀ a ∈ l, validA a = true) ∧ TimeUp l) := by unfold validL TimeUp; simp [and_assoc]
theorem until_len (l : List Ac) (t : Int) : (untilL l t).length ≤ l.length := by
  unfold untilL
  exact (List.takeWhile_sublist _).length_le
end Ey
namespace Go.Proofs.Ytmbnhlihcnbebaa
open Go Go.RowKit Ey Sk Go.Sort Go.Shelf
attribute [local go_sem] Oper.semAt_some

set_option maxRecDepth 100000 in
set_option maxHeartbeats 8000000 in
theorem at_any (hko : KeysOk) (ao : Option Addr) (n cap : Nat) (l : List Ac) (t : Int) (w : World) (hs : Sl w 8 cA ao n cap l) : Calls Try.prog 13 #[.slice ao n cap, .int .i64 t] w (DgsE w (atR l t)) := by
  obtain rfl := hs.len
  have hcap := hs.max
  have hle := hs.le
  unfold maxLen at hcap
  have HS := Lib.hid hs
  have HKO := Lib.hid hko
  have HB_w : Below w.heap.size w w := Below.refl _ _
  have HBAD := Lib.hid (@atR_bad l t)
  have HOK := Lib.hid (@atR_ok l t)
  have hmm := @run_makeMap Try.prog
  clear hs hko
  generalize atR l t = p at *
  refine (callsIn_wide (n := 10)).1 (callsIn_of_wp_marks Try.func13 rfl trivial (wpIn_wide.2 ?_) rfl)
  simp only [Try.ntmps13, List.size_toArray, List.length_cons, List.length_nil, Nat.reduceAdd, Nat.reduceSub, Array.replicate_succ, Array.replicate_zero, List.push_toArray, List.append_toArray, List.nil_append, List.cons_append]
  go_wp2_with fail
  refine (Valid_any _ _ _ l _ HS.out).mono ?_
  rintro e wa ⟨rfl, hb_wa⟩
  have HB_wa : Below w.heap.size w wa := by first | exact after0 HB_w hb_wa | exact after1 HB_w hb_wa | exact after2 HB_w hb_wa | exact after3 HB_w hb_wa | exact after4 HB_w hb_wa | exact after5 HB_w hb_wa
  cases h1 : validL l
  · have HP := Lib.hid (HBAD.out (.inl h1))
    clear h1
    go_wp2_with fail
    refine marks_ret0 (v := .tuple #[.slice none 0 0, .int .i64 1]) (by simp [results, Try.results13, go_sem]) rfl ?_
    exact ⟨none, 0, 0, by rw [HP.out], by rw [HP.out]; exact Sl.nil, HB_wa⟩
  have HV := Lib.hid (validL_iff.1 h1)
  by_cases ht1 : t < 0
  · have HP := Lib.hid (HBAD.out (.inr (decide_eq_false (by omega))))
    clear h1
    go_wp2_with fail
    refine marks_ret0 (v := .tuple #[.slice none 0 0, .int .i64 1]) (by simp [results, Try.results13, go_sem]) rfl ?_
    exact ⟨none, 0, 0, by rw [HP.out], by rw [HP.out]; exact Sl.nil, HB_wa⟩
  by_cases ht2 : 10000000 < t
  · have HP := Lib.hid (HBAD.out (.inr (decide_eq_false (by omega))))
    replace ht1 := Int.not_lt.1 ht1
    clear h1
    go_wp2_with fail
    refine marks_ret0 (v := .tuple #[.slice none 0 0, .int .i64 1]) (by simp [results, Try.results13, go_sem]) rfl ?_
    exact ⟨none, 0, 0, by rw [HP.out], by rw [HP.out]; exact Sl.nil, HB_wa⟩
  have HP := Lib.hid (HOK.out h1 (decide_eq_true (by omega)))
  replace ht1 := Int.not_lt.1 ht1
  replace ht2 := Int.not_lt.1 ht2
  clear h1 HBAD HOK
  obtain ⟨M, hM⟩ : ∃ M, wa.heap.size = M := ⟨_, rfl⟩
  obtain ⟨W2, hW2⟩ : ∃ W2, (wa.alloc (.map #[] 0)).alloc (.cells #[.map (some M)] 70) = W2 := ⟨_, rfl⟩
  have hB2 : Below wa.heap.size wa W2 := hW2 ▸ grew2 (Below.refl _ _)
  have HB_W2 : Below w.heap.size w W2 := after0 HB_wa hB2
  have hZ2 : W2.heap.size = M + 2 := by rw [← hW2]; simp; omega
  have HST : Hid (StOf W2 M 0 []) := by rw [← hW2, ← hM]; exact (StOf.made wa).alloc _
  have H_r : Hid (Box W2 (M + 1) 70 [.map (some M)]) := by
    have h := Box.new (wa.alloc (.map #[] 0)) [.map (some M)] 70
    rw [← hW2]
    rwa [show (wa.alloc (.map #[] 0)).heap.size = M + 1 by simp; omega] at h
  have hwM : w.heap.size ≤ M := by have := HB_wa.size; omega
  clear hB2
  go_wp2_with fail
  clear hmm
  refine (until_mk ao l.length cap t _).mono ?_
  rintro e we ⟨rfl, hb_we, hsz, hx1, hx2⟩
  have HB_we := after0 HB_W2 hb_we
  replace HST := Lib.hid (HST.out.below hb_we)
  replace H_r := Lib.hid (H_r.out.below hb_we)
  have H1 := Lib.hid hx1
  have H2 := Lib.hid hx2
  have hsz2 : we.heap.size = M + 4 := by omega
  clear hx1 hx2 hb_we hW2 hM
  have HSEQ := Lib.hid (show SeqAll Fence.wide 9 Try.prog 63 #[.pointer (some ⟨M + 2, 0, none⟩), .pointer (some ⟨M + 2 + 1, 0, none⟩)] eXA (fun a => validA a = true) (KpBut M) (fun xs => xs = untilL l t) 200 we from
    fun lid J W hW hJ hY h0 => until1_wide (KpBut M) t lid (M + 2) (M + 2 + 1) 22 3 M (fun _ _ h => h.low) (fun _ _ h hb => h.box hb (by omega)) ao l.length cap l J W hJ hY ((hZ2 ▸ H1.out : Box we (M + 2) _ _).below hW) ((hZ2 ▸ H2.out : Box we (M + 2 + 1) _ _).below hW)
      (fun W' hW' => HS.out.below ((after0 HB_we hW).trans (hW'.mono hwM))) HV.out.1 HV.out.2.1 (by have := hW.size; omega) h0)
  have hl200 := HV.out.1
  go_wp2_with fail
  refine (wpIn_wide (n := 10)).1 ?_
  refine wpIn_rangeFunc_alx rfl (by omega) (gf := 63) (lb := #[.pointer (some ⟨M + 2, 0, none⟩), .pointer (some ⟨M + 2 + 1, 0, none⟩)]) rfl trivial (enters_of Try.func63 (by kernel_rfl) rfl) HSEQ.out
    KpBut.trans (fun W l' o o' hl h hc hw => KpBut.put W l' o o' (by omega) h hc hw) (Below.refl _ _) (fun _ => rfl)
    (fun pre W => Box W (M + 1) 70 [.map (some M)] ∧ StOf W M pre.length (stS pre) ∧ Below w.heap.size w W ∧ we.heap.size ≤ W.heap.size)
    (fun s A B row hs hg hr => by
      obtain ⟨b1, s1, hb, hz⟩ := hs
      refine ⟨b1.grown hg (fun e => by have := hr _ e.symm; omega), s1.kept hg (fun e => by have := hr _ e.symm; omega), hb.grown hg hb.size (fun j hj => by have := hr _ hj; have := HB_we.size; omega), Nat.le_trans hz hg.size⟩)
    ⟨H_r.out, HST.out, HB_we, Nat.le_refl _⟩
    (fun x a' W => ∃ R, we.heap.size + 2 ≤ R ∧ Box W R 37 (cA x) ∧ a' = { tmps := #[.slice ao l.length cap, .int .i64 t, undef, undef, .slice none 0 0,
          .int .i64 0, .pointer (some ⟨M + 1, 0, none⟩), .pointer (some ⟨R, 0, none⟩),
          .slice ao l.length cap, .bool true, .bool false, .bool false, .int .i64 t,
          .bool (decide (t < 0)), .bool (decide (t < 0)), .bool (decide (t < 0)),
          .int .i64 t, .bool (decide (10000000 < t)),
          .bool (decide (t < 0) || decide (10000000 < t)), .map (some M), .slice ao l.length cap,
          .int .i64 t, .func (.func 63) #[] #[.pointer (some ⟨M + 2, 0, none⟩), .pointer (some ⟨M + 2 + 1, 0, none⟩)], eA x, undef, undef, undef, undef, undef], defers := [] })
    (fun x a' W o' h => by
      obtain ⟨R, h1, h2, h3⟩ := h
      exact ⟨R, h1, h2.grown (grownBy_putObj' W (we.heap.size + 1) o') (fun e => by have := Option.some.inj e; omega), h3⟩)
    ?assign ?body ?done
  case assign =>
    rintro l' pre x W K ⟨b1, s1, hb, hz⟩ hsz hK
    have HKK := Lib.hid hK
    have HB1 := Lib.hid b1
    have HS1 := Lib.hid s1
    have HHB := Lib.hid hb
    clear hK b1 s1 hb
    dsimp only [eXA]
    gi_wp2
    have hbl : Below W.heap.size W (W.alloc (.cells (cA x).toArray 37)) := grew1 (Below.refl _ _)
    have hsM := HS1.out.lt
    refine HKK.out _ _ ((KeepsOthers.alloc _ _).from _) (KpBut.of_grown (grown_below hbl) hsM) ⟨HB1.out.alloc _, HS1.out.alloc _, grew1 HHB.out, Nat.le_trans hz hbl.size⟩ ⟨W.heap.size, hsz, Box.new W (cA x) _, rfl⟩
  case body =>
    rintro l' pre x a' W hpx ⟨b1, s1, hb, hz⟩ hlt ⟨R, hRw, hR, rfl⟩
    have HB1 := Lib.hid b1
    have HS1 := Lib.hid s1
    have HHB := Lib.hid hb
    have r0 := b1.c1
    have HBR := Lib.hid hR
    have HACT := Lib.hid (act_any M pre.length (stS pre) x W s1 (by omega) hpx)
    have hsn := stS_snoc pre x
    have HSN := Lib.hid hsn
    clear b1 s1 hb hR hpx hsn
    obtain ⟨x0, x1, x2, x3, ⟨x4, x5, x6, x7⟩⟩ := x
    obtain ⟨q0, q1, q2, q3, q4, q5, q6, q7⟩ := HBR.out.c8
    dsimp only [eA] at HACT ⊢
    gi_wp2_with fail
    refine ⟨trivial, (((callsIn_wide (n := 7)).2 HACT.out).inRound l').mono ?_⟩
    rintro e w2 ⟨rfl, hst, hg⟩
    have HST2 := Lib.hid hst
    have HG := Lib.hid hg
    clear hst hg
    gi_wp2
    have hbl := HS1.out.lt
    refine ⟨KeepsFrom.of_grownBy HG.out (fun j e => by cases e; omega), KpBut.of_grown HG.out hbl, HB1.out.grown HG.out (fun e => by have := Option.some.inj e; omega), (by rw [List.length_append, HSN.out]; exact HST2.out : _), HHB.out.grown HG.out HHB.out.size (fun j e => by cases e; omega), Nat.le_trans hz HG.out.size⟩
  case done =>
    rintro D xs W hD rfl ⟨b1, s1, hb, hz⟩ hK
    have r0 := b1.c1
    have HD : Hid (W.heap[D]? = some (.deferred (some []))) := hK
    have HDR : Hid (we.heap.size ≤ D) := hD
    have HHB := Lib.hid hb
    have hxl := until_len l t
    have hsl := (stS_sor (untilL l t)).2
    have HLC := Lib.hid (list_any HKO.out M _ (stS (untilL l t)) W s1 (by omega) (by omega))
    clear hK hD b1 hb hz s1
    generalize stS (untilL l t) = L at *
    dsimp only [Exit.inBlock, Exit.then]
    go_wp2_with fail
    refine HLC.out.mono ?_
    rintro e wf ⟨v, rfl, ho, hb_wf⟩
    obtain ⟨ao', cap', rfl, hsl2⟩ := ho.sl cD_len
    have HKF := Lib.hid ((hb_wf.block D (Array.getElem?_eq_some_iff.1 HD.out).1).trans HD.out)
    have HOO := Lib.hid ho
    have HBF := Lib.hid (after0 HHB.out hb_wf)
    clear ho hsl2 hb_wf
    go_wp2_with fail
    refine marks_ret1 (v := .tuple #[.slice ao' L.length cap', .int .i64 0]) HKF.out rfl (by simp [results, Try.results13, go_sem]) ?_
    have hput := HOO.out.grown (grownBy_putObj' wf D (.deferred none)) (fun r e => by cases e; exact ⟨_, HKF.out, rfl⟩)
    obtain ⟨ao2, cap2, e2, hsl3⟩ := hput.sl cD_len
    simp only [Value.slice.injEq] at e2
    obtain ⟨rfl, _, rfl⟩ := e2
    have h1 := HB_we.size
    have h3 := HDR.out
    exact ⟨ao', _, cap', by rw [HP.out], by rw [HP.out]; exact hsl3, HBF.out.trans (belowK_b (w := w) (Nat.le_refl _) wf D _ _ (by omega) HKF.out rfl rfl)⟩
end Go.Proofs.Ytmbnhlihcnbebaa
