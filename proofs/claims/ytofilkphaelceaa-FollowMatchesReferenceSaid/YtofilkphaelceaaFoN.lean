/-
  Walks of the layer 'follow': Missing, Before.
-/
import Derived.Maps.OwnIn
import Derived.Test.YtofilkphaelceaaFoL
import Derived.Test.YtofilkphaelceaaFoG
import Derived.Test.YtofilkphaelceaaAppIn
set_option linter.unusedVariables false
namespace Go.Proofs.Ytofilkphaelceaa
open Go Go.RowKit Fo Sk Go.Sort Go.Shelf
attribute [local go_sem] Oper.semAt_some

section
variable {F : Fence} {nF : Nat} {w : World} {ops : Array Oper} {rest : List Oper} {o : Oper} {a : Act} {Q : Exit → Act → World → Prop}
/-- 's[x] = true', fenced -/
theorem wpListIn_put_set (hg : o.guard = none) (m x v : Operand) (hop : o.op = Op.mapUpdate 52 m x v) (b n : Nat) (S : Int → Bool)
    (hm : a.eval m = .map (some b)) (h : SetOf w b n S) (hn : n < maxLen) (y : Int) (hx : a.eval x = .int .i64 y) (hv : a.eval v = .bool true) (hy : I64 y)
    (hK : ∀ w', SetOf w' b (n + 1) (fun z => S z || z == y) → w.grownBy w' (some b) → wpListIn F nF Try.prog ops Q rest (a.put o.dst undef) w') :
    wpListIn F nF Try.prog ops Q (o :: rest) a w := by
  obtain ⟨D, h1, h2, h3⟩ := h
  have hD := h1.isMap
  refine wpListIn_mapUpdate_own w hg m x v 52 hop 3 4 lawI Try.underlying52 _ b n D hm h1 hn _ _ _ hx hv (keyI hy) _ [] (plainElem_bool Try.underlying4 true) ?_
  intro w' h4 h5
  refine hK w' ⟨_, h4, fun z hz => by rw [has_put hD, h2 z hz], fun z hz => ?_⟩ h5
  by_cases e : z = y
  · subst e
    rw [Maps.atKey_put_same hD (kli _)]
    simp
  · rw [Maps.atKey_put_other (by simp; omega), h3 z hz]
    simp [e]
end

theorem before_mk (ao : Option Addr) (n cap b : Nat) (t : Int) (w : World) : Calls Try.prog 48 #[.slice ao n cap, .map (some b), .int .i64 t] w
    (fun e w' => e = .returned (.func (.func 58) #[] #[.pointer (some ⟨w.heap.size + 2, 0, none⟩), .pointer (some ⟨w.heap.size, 0, none⟩), .pointer (some ⟨w.heap.size + 1, 0, none⟩)]) ∧ Below w.heap.size w w' ∧ w'.heap.size = w.heap.size + 3 ∧
      Box w' w.heap.size 22 [.slice ao n cap] ∧ Box w' (w.heap.size + 1) 52 [.map (some b)] ∧ Box w' (w.heap.size + 2) 3 [.int .i64 t]) := by
  obtain ⟨W0, hW0, HB_W0, hZ, h1, h2, h3⟩ := boxes3 w [.slice ao n cap] [.map (some b)] [.int .i64 t] 22 52 3
  have H1 := Lib.hid h1
  have H2 := Lib.hid h2
  have H3 := Lib.hid h3
  have HZ := Lib.hid hZ
  clear h1 h2 h3 hZ
  go_enter Try.func48, Try.ntmps48
  go_wp2_with fail
  go_ret
  exact ⟨rfl, HB_W0, HZ.out, H1.out, H2.out, H3.out⟩

theorem missR_bad {l : List St} {d : List Int} {t : Int} (h : valid l = false ∨ isDone d = false) : missR l d t = ([], 1) := by unfold missR; rw [if_neg]; rcases h with h | h <;> simp [h]
theorem missR_none {l : List St} {d : List Int} {t : Int} (h1 : valid l = true) (h2 : isDone d = true) (h3 : findS l t = none) : missR l d t = ([], 4) := by unfold missR; rw [if_pos (by simp [h1, h2]), if_neg (by simp [h3])]
theorem missR_ok {l : List St} {d : List Int} {t : Int} {s : St} (h1 : valid l = true) (h2 : isDone d = true) (h3 : findS l t = some s) : missR l d t = (missF l d t, 0) := by unfold missR; rw [if_pos (by simp [h1, h2]), if_pos (by simp [h3])]

set_option maxRecDepth 100000 in
set_option maxHeartbeats 8000000 in
theorem Missing_any (hso : SortOk) (ao : Option Addr) (n cap : Nat) (l : List St) (bo : Option Addr) (m capb : Nat) (d : List Int) (t : Int) (w : World) (hs : SlS w ao n cap l) (hd : Sl w 1 cI bo m capb d) :
    Calls Try.prog 22 #[.slice ao n cap, .slice bo m capb, .int .i64 t] w (IntsE w (missR l d t)) := by
  obtain rfl := hs.1.len
  obtain rfl := hd.len
  have HSO := Lib.hid hso
  have HS0 := Lib.hid hs
  have HS := Lib.hid hs
  have HD := Lib.hid hd
  have HB_w : Below w.heap.size w w := Below.refl _ _
  have HBAD := Lib.hid (@missR_bad l d t)
  have HNO := Lib.hid (@missR_none l d t)
  have HOK := Lib.hid (fun s => @missR_ok l d t s)
  have hmm := @run_makeMap Try.prog
  clear hs hd hso
  generalize missR l d t = p at *
  refine (callsIn_wide (n := 10)).1 (callsIn_of_wp_marks Try.func22 rfl trivial (wpIn_wide.2 ?_) rfl)
  simp only [Try.ntmps22, List.size_toArray, List.length_cons, List.length_nil, Nat.reduceAdd, Nat.reduceSub, Array.replicate_succ, Array.replicate_zero, List.push_toArray, List.append_toArray, List.nil_append, List.cons_append]
  go_wp2_with fail
  refine (Valid_any _ _ _ l _ HS.out).mono ?_
  rintro e wa ⟨rfl, hb_wa⟩
  have HB_wa : Below w.heap.size w wa := by first | exact after0 HB_w hb_wa | exact after1 HB_w hb_wa | exact after2 HB_w hb_wa | exact after3 HB_w hb_wa | exact after4 HB_w hb_wa | exact after5 HB_w hb_wa
  replace HS := Lib.hid (HS.out.below hb_wa)
  replace HD := Lib.hid (HD.out.below hb_wa)
  cases h1 : valid l
  · have HP := Lib.hid (HBAD.out (.inl h1))
    clear h1
    go_wp2_with fail
    refine marks_ret0 (v := .tuple #[.slice none 0 0, .int .i64 1]) (by simp [results, Try.results22, go_sem]) rfl ?_
    exact ⟨none, 0, 0, by rw [HP.out], by rw [HP.out]; exact Sl.nil, HB_wa⟩
  have HV := Lib.hid (vok h1)
  replace HOK := Lib.hid (fun s => HOK.out s h1)
  replace HNO := Lib.hid (HNO.out h1)
  clear h1
  go_wp2_with fail
  refine (isDone_any _ _ _ d _ HD.out).mono ?_
  rintro e wb ⟨rfl, hb_wb⟩
  have HB_wb : Below w.heap.size w wb := by first | exact after0 HB_wa hb_wb | exact after1 HB_wa hb_wb | exact after2 HB_wa hb_wb | exact after3 HB_wa hb_wb | exact after4 HB_wa hb_wb | exact after5 HB_wa hb_wb
  replace HS := Lib.hid (HS.out.below hb_wb)
  replace HD := Lib.hid (HD.out.below hb_wb)
  cases h2 : isDone d
  · have HP := Lib.hid (HBAD.out (.inr h2))
    clear h2
    go_wp2_with fail
    refine marks_ret0 (v := .tuple #[.slice none 0 0, .int .i64 1]) (by simp [results, Try.results22, go_sem]) rfl ?_
    exact ⟨none, 0, 0, by rw [HP.out], by rw [HP.out]; exact Sl.nil, HB_wb⟩
  have hdn := isDone_iff.1 h2
  replace HOK := Lib.hid (fun s => HOK.out s h2)
  replace HNO := Lib.hid (HNO.out h2)
  have H64 := Lib.hid (show ∀ a ∈ d, I64 a from fun a ha => by have := hdn.2.2 a ha; exact i64_of (by omega) (by omega))
  clear h2 hdn HBAD
  go_wp2_with fail
  refine (find_any _ _ _ l t _ HS.out HV.out).mono ?_
  rintro e wc ⟨rfl, hb_wc⟩
  have HB_wc : Below w.heap.size w wc := by first | exact after0 HB_wb hb_wc | exact after1 HB_wb hb_wc | exact after2 HB_wb hb_wc | exact after3 HB_wb hb_wc | exact after4 HB_wb hb_wc | exact after5 HB_wb hb_wc
  replace HS := Lib.hid (HS.out.below hb_wc)
  replace HD := Lib.hid (HD.out.below hb_wc)
  cases hf : findS l t with
  | none =>
    have HP := Lib.hid (HNO.out hf)
    dsimp only [fS, Option.isSome]
    clear hf
    go_wp2_with fail
    refine marks_ret0 (v := .tuple #[.slice none 0 0, .int .i64 4]) (by simp [results, Try.results22, go_sem]) rfl ?_
    exact ⟨none, 0, 0, by rw [HP.out], by rw [HP.out]; exact Sl.nil, grew1 HB_wc⟩
  | some s =>
    have HP := Lib.hid (HOK.out s hf)
    have HF := Lib.hid (show (findS l t).isSome = true by rw [hf]; rfl)
    dsimp only [fS, Option.isSome]
    obtain ⟨s0, s1, s2, s3, s4⟩ := s
    clear hf HOK HNO
    obtain ⟨W1, hW1⟩ : ∃ W1, wc.alloc (.cells #[.int .i64 s0, .slice s1 s2 s3] 44) = W1 := ⟨_, rfl⟩
    have hB1 : Below wc.heap.size wc W1 := hW1 ▸ grew1 (Below.refl _ _)
    obtain ⟨bm, hbm⟩ : ∃ N, W1.heap.size = N := ⟨_, rfl⟩
    obtain ⟨W2, hW2⟩ : ∃ W2, (W1.alloc (.map #[] 0)).alloc (.cells #[.map (some bm)] 52) = W2 := ⟨_, rfl⟩
    have hB2 : Below W1.heap.size W1 W2 := hW2 ▸ grew2 (Below.refl _ _)
    have HB_W2 : Below w.heap.size w W2 := after0 (after0 HB_wc hB1) hB2
    replace HS := Lib.hid ((HS.out.below hB1).below hB2)
    replace HD := Lib.hid ((HD.out.below hB1).below hB2)
    have hZ2 : W2.heap.size = bm + 2 := by rw [← hW2]; simp; omega
    have HSE : Hid (SetOf W2 bm 0 (fun _ => false)) := by rw [← hW2, ← hbm]; exact (SetOf.made W1).alloc _
    have H_r : Hid (Box W2 (bm + 1) 52 [.map (some bm)]) := by
      have h := Box.new (W1.alloc (.map #[] 0)) [.map (some bm)] 52
      rw [← hW2]
      rwa [show (W1.alloc (.map #[] 0)).heap.size = bm + 1 by simp; omega] at h
    have hwbm : w.heap.size ≤ bm := by have := (after0 HB_wc hB1).size; omega
    clear hB1 hB2
    go_wp2_with fail
    refine (newSet_any _ _ _ d _ HD.out H64.out).mono ?_
    rintro e wd ⟨b, rfl, hbd, hset, hb_wd⟩
    have HB_wd := after0 HB_W2 hb_wd
    replace HSE := Lib.hid (HSE.out.below hb_wd)
    replace H_r := Lib.hid (H_r.out.below hb_wd)
    have HSD := Lib.hid hset
    have hbw := hset.lt
    clear hset hb_wd HD H64 hW1 hW2 hbm hmm
    go_wp2_with fail
    refine (before_mk _ _ _ _ _ _).mono ?_
    rintro e we ⟨rfl, hb_we, hsz, hx1, hx2, hx3⟩
    have HB_we := after0 HB_wd hb_we
    replace HSE := Lib.hid (HSE.out.below hb_we)
    replace HSD := Lib.hid (HSD.out.below hb_we)
    replace H_r := Lib.hid (H_r.out.below hb_we)
    have H1 := Lib.hid hx1
    have H2 := Lib.hid hx2
    have H3 := Lib.hid hx3
    have HWD := Lib.hid (show bm + 2 ≤ wd.heap.size by omega)
    clear hx1 hx2 hx3 hb_we
    have HSEQ := Lib.hid (show SeqAll Fence.wide 9 Try.prog 58 #[.pointer (some ⟨wd.heap.size + 2, 0, none⟩), .pointer (some ⟨wd.heap.size, 0, none⟩), .pointer (some ⟨wd.heap.size + 1, 0, none⟩)] eX I64 (KpBut bm) (fun xs => xs.Nodup ∧ ∀ a, a ∈ xs ↔ Rch l d t a) 200 we from
      fun lid J W hW hJ hY h0 => before1_wide lid (wd.heap.size + 2) wd.heap.size (wd.heap.size + 1) _ _ _ bm b d.length ao l.length cap l d t J W hJ hY (H3.out.below hW) (H1.out.below hW) (H2.out.below hW) (HSD.out.below hW)
        (fun W' hW' => HS0.out.below ((after0 HB_we hW).trans (hW'.mono hwbm))) HV.out HF.out ⟨by omega, by omega, by omega, by have := hW.size; omega⟩ h0)
    go_wp2_with fail
    refine (wpIn_wide (n := 10)).1 ?_
    refine wpIn_rangeFunc_all rfl (by omega) (gf := 58) (lb := #[.pointer (some ⟨wd.heap.size + 2, 0, none⟩), .pointer (some ⟨wd.heap.size, 0, none⟩), .pointer (some ⟨wd.heap.size + 1, 0, none⟩)]) rfl trivial (enters_of Try.func58 (by kernel_rfl) rfl) HSEQ.out
      KpBut.trans (fun W l' o o' hl h hc hw => KpBut.put W l' o o' (by omega) h hc hw) (Below.refl _ _) (fun _ => rfl)
      (fun pre W => Box W (bm + 1) 52 [.map (some bm)] ∧ SetOf W bm pre.length pre.contains ∧ Below w.heap.size w W ∧ we.heap.size ≤ W.heap.size)
      (fun s A B row hs hg hr => by
        obtain ⟨b1, s1, hb, hz⟩ := hs
        refine ⟨b1.grown hg (fun e => by have := hr _ e.symm; omega), s1.kept hg (fun e => by have := hr _ e.symm; omega), hb.grown hg hb.size (fun j hj => by have := hr _ hj; have := HB_we.size; omega), Nat.le_trans hz hg.size⟩)
      ⟨H_r.out, (HSE.out.congr (fun x _ => by simp) : _), HB_we, Nat.le_refl _⟩
      (fun x => { tmps := #[.slice ao l.length cap, .slice bo d.length capb, .int .i64 t, undef, undef, undef,
          .slice none 0 0, .int .i64 0, .pointer (some ⟨wc.heap.size, 0, none⟩), .bool true, .pointer (some ⟨bm + 1, 0, none⟩), .int .i64 x, .slice ao l.length cap,
          .bool true, .bool false, .bool false, .slice bo d.length capb, .bool true, .bool false, .bool false, .tuple #[eS ⟨s0, s1, s2, s3, s4⟩, .bool true],
          .slice ao l.length cap, .int .i64 t, .tuple #[eS ⟨s0, s1, s2, s3, s4⟩, .bool true], eS ⟨s0, s1, s2, s3, s4⟩, .bool true, .bool true, .bool false,
          .map (some bm), .slice ao l.length cap, .slice bo d.length capb, .map (some b), .int .i64 t,
          .func (.func 58) #[] #[.pointer (some ⟨wd.heap.size + 2, 0, none⟩), .pointer (some ⟨wd.heap.size, 0, none⟩), .pointer (some ⟨wd.heap.size + 1, 0, none⟩)], .int .i64 x, undef, undef, undef, undef], defers := [] })
      ?assign ?body ?done
    case assign =>
      intro l' x W K hK
      dsimp only [eX]
      gi_wp2
      simpa using hK
    case body =>
      rintro l' pre x W hpx ⟨b1, s1, hb, hz⟩ hlt
      have r0 := b1.c1
      have HB1 := Lib.hid b1
      have HS1 := Lib.hid s1
      have HHB := Lib.hid hb
      have HPX := Lib.hid hpx
      have hlt2 : pre.length < maxLen := by unfold maxLen; omega
      clear b1 s1 hb hpx
      gi_wp2_with (gi_at_mapUpdate; refine wpListIn_put_set rfl _ _ _ rfl bm pre.length _ rfl HS1.out hlt2 x rfl rfl HPX.out ?_)
      intro w1 hset1 hg1
      have HS2 := Lib.hid (hset1.congr (S' := (pre ++ [x]).contains) (fun y _ => by rw [Bool.eq_iff_iff]; simp))
      have HG := Lib.hid hg1
      clear hset1 hg1 r0
      gi_wp2
      have hbl := HS1.out.lt
      refine ⟨KeepsFrom.of_grownBy HG.out (fun j e => by cases e; omega), KpBut.of_grown HG.out (by omega), HB1.out.grown HG.out (by simp), (by rw [List.length_append]; exact HS2.out : _), HHB.out.grown HG.out HHB.out.size (fun j e => by cases e; omega), Nat.le_trans hz HG.out.size⟩
    case done =>
      rintro D xs W hD ⟨hnd, hmem⟩ ⟨b1, s1, hb, hz⟩ hK
      have r0 := b1.c1
      have HD : Hid (W.heap[D]? = some (.deferred (some []))) := hK
      have HDR : Hid (we.heap.size ≤ D) := hD
      have HHB := Lib.hid hb
      have hxl : xs.length ≤ 200 := by
        have h1 := nodup_len xs (l.map St.n) hnd (fun x hx => by
          obtain ⟨_, ⟨t', ht, he⟩, _⟩ := ((hmem x).1 hx).lt HV.out
          exact List.mem_map.2 ⟨t', ht, he⟩)
        rw [List.length_map] at h1
        exact Nat.le_trans h1 HV.out.len
      have HLC := Lib.hid (list_any HSO.out bm xs.length xs.contains (missF l d t) W s1 (by omega) (filt_inc HV.out _) (fun x _ => by rw [miss_iff HV.out, List.contains_eq_mem, decide_eq_true_eq]; exact hmem x)
        (fun x hx => by obtain ⟨_, ⟨t', ht, rfl⟩, _⟩ := ((miss_iff HV.out d t x).1 hx).lt HV.out; have := HV.out.num t' ht; exact i64_of (by omega) (by omega)))
      clear hK hD b1 hb hz s1 hnd hmem
      generalize missF l d t = L at *
      dsimp only [Exit.inBlock, Exit.then]
      go_wp2_with fail
      refine HLC.out.mono ?_
      rintro e wf ⟨v, rfl, ho, hb_wf⟩
      obtain ⟨ao', cap', rfl, hsl⟩ := ho.sl cI_len
      have HKF := Lib.hid ((hb_wf.block D (Array.getElem?_eq_some_iff.1 HD.out).1).trans HD.out)
      have HOO := Lib.hid ho
      have HBF := Lib.hid (after0 HHB.out hb_wf)
      clear ho hsl hb_wf
      go_wp2_with fail
      refine marks_ret1 (v := .tuple #[.slice ao' L.length cap', .int .i64 0]) HKF.out rfl (by simp [results, Try.results22, go_sem]) ?_
      have hput := HOO.out.grown (grownBy_putObj' wf D (.deferred none)) (fun r e => by cases e; exact ⟨_, HKF.out, rfl⟩)
      obtain ⟨ao2, cap2, e2, hsl2⟩ := hput.sl cI_len
      simp only [Value.slice.injEq] at e2
      obtain ⟨rfl, _, rfl⟩ := e2
      have h1 := HB_we.size
      have h3 := HDR.out
      exact ⟨ao', _, cap', by rw [HP.out], by rw [HP.out]; exact hsl2, HBF.out.trans (belowK_b (w := w) (Nat.le_refl _) wf D _ _ (by omega) HKF.out rfl rfl)⟩

theorem Before_any (hso : SortOk) (ao : Option Addr) (n cap : Nat) (l : List St) (t : Int) (w : World) (hs : SlS w ao n cap l) :
    Calls Try.prog 24 #[.slice ao n cap, .int .i64 t] w (IntsE w (missR l [] t)) := by
  have HM := Lib.hid (Missing_any hso ao n cap l none 0 0 [] t w hs Sl.nil)
  clear hs hso
  go_enter Try.func24, Try.ntmps24
  go_wp2_with fail
  refine HM.out.mono ?_
  rintro e w2 ⟨ao2, n2, cap2, rfl, hsl, hb⟩
  have HSL := Lib.hid hsl
  clear hsl
  go_wp2_with fail
  go_ret2
  exact ⟨ao2, n2, cap2, rfl, HSL.out, hb⟩
end Go.Proofs.Ytofilkphaelceaa
