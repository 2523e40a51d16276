/-
  Walks of the layer 'follow': Beside, its first half: what lies before each step.
-/
import Derived.Test.YtofilkphaelceaaFoZ
import Derived.Test.YtofilkphaelceaaTail
set_option linter.unusedVariables false
namespace Fo
theorem ahd_sub {l : List St} (hv : VOk l) {n x : Int} (h : ahd l n x = true) : x ∈ l.map St.n := by
  obtain ⟨_, ⟨t, ht, he⟩, _⟩ := ((ahd_iff hv).1 h).lt hv
  exact List.mem_map.2 ⟨t, ht, he⟩
theorem ahd_step {l : List St} (hv : VOk l) {k : Nat} (hk : k < l.length) (x : Int) : ahd l l[k].n x = (l[k].af.contains x || l[k].af.any (fun a => ahd l a x)) := by
  rw [Bool.eq_iff_iff, ahd_iff hv, rch_step hv (find_mem hv hk)]
  simp only [Bool.or_eq_true, List.contains_eq_mem, decide_eq_true_eq, List.any_eq_true]
  constructor
  · rintro (h | ⟨a, h1, h2⟩)
    · exact .inl h
    · exact .inr ⟨a, h1, (ahd_iff hv).2 h2⟩
  · rintro (h | ⟨a, h1, h2⟩)
    · exact .inl h
    · exact .inr ⟨a, h1, (ahd_iff hv).1 h2⟩
/-- the pairs of a step with those behind it that do not follow on it -/
def besQ (l : List St) (a : Int) (tl : List St) : List (Int × Int) := (tl.filter fun t => !ahd l t.n a).map fun t => (a, t.n)
def besRow (l : List St) (i : Nat) : List (Int × Int) := match l[i]? with | some s => besQ l s.n (l.drop (i + 1)) | none => []
def besP (l : List St) (k : Nat) : List (Int × Int) := (List.range k).flatMap (besRow l)
def besR (l : List St) : List (Int × Int) × Int := if valid l then (besP l l.length, 0) else ([], 1)
theorem besQ_nil (l : List St) (a : Int) : besQ l a [] = [] := rfl
theorem besQ_len (l : List St) (a : Int) (tl : List St) : (besQ l a tl).length ≤ tl.length := by unfold besQ; rw [List.length_map]; exact List.length_filter_le _ _
theorem besQ_succ {l tl : List St} {a : Int} {q : Nat} (h : q < tl.length) : besQ l a (tl.take (q + 1)) = if ahd l tl[q].n a then besQ l a (tl.take q) else besQ l a (tl.take q) ++ [(a, tl[q].n)] := by
  unfold besQ
  rw [List.take_add_one, List.getElem?_eq_getElem h, Option.toList_some, List.filter_append, List.map_append]
  cases hc : ahd l tl[q].n a <;> simp [hc]
theorem besP_succ {l : List St} {k : Nat} (h : k < l.length) : besP l (k + 1) = besP l k ++ besQ l l[k].n (l.drop (k + 1)) := by
  unfold besP
  rw [List.range_succ, List.flatMap_append]
  simp [besRow, h]
theorem besP_len (l : List St) (k : Nat) : (besP l k).length ≤ k * l.length := by
  induction k with
  | zero => simp [besP]
  | succ k ih =>
    by_cases h : k < l.length
    · rw [besP_succ h, List.length_append]
      have := besQ_len l l[k].n (l.drop (k + 1))
      rw [List.length_drop] at this
      rw [Nat.succ_mul]
      omega
    · have : besP l (k + 1) = besP l k := by
        unfold besP
        rw [List.range_succ, List.flatMap_append]
        simp [besRow, List.getElem?_eq_none (Nat.le_of_not_lt h)]
      rw [this, Nat.succ_mul]
      omega
theorem besR_bad {l : List St} (h : valid l = false) : besR l = ([], 1) := by simp [besR, h]
theorem besR_ok {l : List St} (h : valid l = true) : besR l = (besP l l.length, 0) := by simp [besR, h]
end Fo
namespace Go.Proofs.Ytofilkphaelceaa
open Go Go.RowKit Fo Sk Go.Sort

abbrev cP (p : Int × Int) : List Value := [.int .i64 p.1, .int .i64 p.2]
theorem cP_len : ∀ x, (cP x).length = 2 := fun _ => rfl
theorem cP_one : ∀ x, ∀ u ∈ cP x, u.oneCell' = true := by intro x u hu; simp [cP] at hu; rcases hu with rfl | rfl <;> rfl
theorem info_pair : (Try.prog.info? 46).map (fun i => (i.zero, i.size, i.bytes)) = some (some (.agg #[.int .i64 0, .int .i64 0]), 2, 16) := by kernel_rfl
/-- a slice of pairs and an error; the slice is the call's own -/
def PairsE (w : World) (p : List (Int × Int) × Int) (e : Ending) (w' : World) : Prop := ∃ ao n cap, e = .returned (.tuple #[.slice ao n cap, .int .i64 p.2]) ∧ Sl w' 2 cP ao n cap p.1 ∧ Below w.heap.size w w'
theorem own_ne_box {α : Type} {w : World} {base e size : Nat} {enc : α → List Value} {v : Value} {ys : List α} (h : OwnL w base e size enc v ys) {N T : Nat} {cs : List Value} (hb : Box w N T cs) (hT : T ≠ e) : some N ≠ v.ownBlock := by
  intro he
  rcases h.2 with hn | ⟨g, cap, cur, rfl, hbg, hgg, rest⟩
  · rw [hn.1] at he; simp [Value.ownBlock] at he
  · simp [Value.ownBlock] at he
    subst he
    unfold Box at hb
    rw [hb] at hgg
    simp at hgg
    exact hT hgg.2

theorem MapOf.low {w w' : World} {B c n : Nat} {f : Int → Option Nat} (h : MapOf w c n f) (hb : Below B w w') (hlt : c < B) : MapOf w' c n f := by
  obtain ⟨D, ⟨es, clock, h1, h2⟩, r⟩ := h
  exact ⟨D, ⟨es, clock, (hb.block c hlt).trans h1, h2⟩, r⟩
/-- the sets before the first k steps, in the map f; all of them between bA and M -/
def Ahead (w : World) (bA M : Nat) (l : List St) (k : Nat) (f : Int → Option Nat) : Prop :=
  ∀ (j : Nat) (h : j < l.length), j < k → ∃ b, f l[j].n = some b ∧ bA < b ∧ b < M ∧ SetOf w b 200 (ahd l l[j].n)
theorem Ahead.low {w w' : World} {B bA M : Nat} {l : List St} {k : Nat} {f : Int → Option Nat} (h : Ahead w bA M l k f) (hb : Below B w w') (hB : M ≤ B) : Ahead w' bA M l k f := fun j hj hjk => by
  obtain ⟨b, h1, h2, h3, h4⟩ := h j hj hjk
  exact ⟨b, h1, h2, h3, h4.low hb (by omega)⟩
theorem Ahead.mono {w : World} {bA M M' : Nat} {l : List St} {k : Nat} {f : Int → Option Nat} (h : Ahead w bA M l k f) (hM : M ≤ M') : Ahead w bA M' l k f := fun j hj hjk => by
  obtain ⟨b, h1, h2, h3, h4⟩ := h j hj hjk
  exact ⟨b, h1, h2, by omega, h4⟩
/-- one step more is in the map -/
theorem Ahead.put {w w' : World} {bA M mb : Nat} {l : List St} {k : Nat} {f : Int → Option Nat} (h : Ahead w bA M l k f) (hk : k < l.length) (hn : ∀ (j : Nat) (h : j < l.length), j < k → l[j].n ≠ l[k].n) (hset : SetOf w mb 200 (ahd l l[k].n)) (hb : bA < mb) (hmb : mb < w.heap.size) (hM : M ≤ mb)
    (hg : w.grownBy w' (some bA)) : Ahead w' bA w'.heap.size l (k + 1) (fun z => if z = l[k].n then some mb else f z) := fun j hj hjk => by
  rcases Nat.lt_succ_iff_lt_or_eq.1 hjk with h1 | rfl
  · obtain ⟨b, h2, h3, h4, h5⟩ := h j hj h1
    exact ⟨b, by simp [hn j hj h1]; exact h2, h3, by have := hg.size; omega, h5.kept hg (by simp; omega)⟩
  · exact ⟨mb, by simp, hb, by have := hg.size; omega, hset.kept hg (by simp; omega)⟩

set_option maxRecDepth 100000 in
set_option maxHeartbeats 8000000 in
theorem Beside_any (ao : Option Addr) (n cap : Nat) (l : List St) (w : World) (hs : SlS w ao n cap l) :
    Calls Try.prog 26 #[.slice ao n cap] w (PairsE w (besR l)) := by
  obtain rfl := hs.1.len
  have hcap := hs.1.max
  have hle := hs.1.le
  unfold maxLen at hcap
  have HS0 := Lib.hid hs
  have HB_w : Below w.heap.size w w := Below.refl _ _
  have hmm := @run_makeMap Try.prog
  have HBAD := Lib.hid (@besR_bad l)
  have HOK := Lib.hid (@besR_ok l)
  generalize besR l = p at *
  go_enter Try.func26, Try.ntmps26
  go_wp2_with fail
  refine (Valid_any _ _ _ l _ HS0.out).mono ?_
  rintro e wa ⟨rfl, hb_wa⟩
  have HB_wa : Below w.heap.size w wa := by first | exact after0 HB_w hb_wa | exact after1 HB_w hb_wa | exact after2 HB_w hb_wa | exact after3 HB_w hb_wa | exact after4 HB_w hb_wa | exact after5 HB_w hb_wa
  cases h1 : valid l
  · have HP := Lib.hid (HBAD.out h1)
    clear h1
    go_wp2_with fail
    go_ret2
    exact ⟨none, 0, 0, by rw [HP.out]; rfl, by rw [HP.out]; exact Sl.nil, HB_wa⟩
  have HV := Lib.hid (vok h1)
  have HP := Lib.hid (HOK.out h1)
  clear HBAD HOK
  have hl200 := HV.out.len
  clear h1 hs
  obtain ⟨W1, hW1⟩ : ∃ W1, wa.alloc (.map #[] 0) = W1 := ⟨_, rfl⟩
  obtain ⟨bA, hbA⟩ : ∃ N, wa.heap.size = N := ⟨_, rfl⟩
  have HM1 : Hid (MapOf W1 bA 0 (fun _ => none)) := by rw [← hW1, ← hbA]; exact MapOf.made wa
  have HB_W1 : Below w.heap.size w W1 := hW1 ▸ grew1 HB_wa
  have hZ1 : W1.heap.size = bA + 1 := by rw [← hW1]; simp; omega
  have hwA : w.heap.size ≤ bA := by have := HB_wa.size; omega
  go_wp2_with fail
  clear hW1 hmm hbA
  go_loopw [22] (fun i wr => ∃ (k : Nat) (f : Int → Option Nat), k ≤ l.length ∧ i = .int .i64 k ∧ Below w.heap.size w wr ∧ Hid (MapOf wr bA k f) ∧ Hid (Ahead wr bA wr.heap.size l k f) ∧ bA < wr.heap.size) (fun i _ => l.length - (intOf i).toNat)
  case atStart => exact ⟨0, _, Nat.zero_le _, rfl, HB_W1, HM1.out, fun j _ h => absurd h (Nat.not_lt_zero _), by omega⟩
  case round =>
    clear HM1 HB_W1 hZ1
    obtain ⟨k, f, hk, rfl, HB_wr, HM, HA, hsz⟩ := hrel
    by_cases hlt : k < l.length
    · have HSW := Lib.hid (HS0.out.below HB_wr)
      obtain ⟨b', off, rfl, hb, hrow⟩ := HSW.out.1.get hlt
      obtain ⟨e_0, e_1⟩ := (hrow k hlt).c2
      have HSO := Lib.hid (HS0.out.2 _ (List.getElem_mem hlt))
      have HSTEP := Lib.hid (ahd_step HV.out hlt)
      have hnum := HV.out.num _ (List.getElem_mem hlt)
      have hx : I64 l[k].n := i64_of (by omega) (by omega)
      have HPRE := Lib.hid (HV.out.pre k hlt)
      have HOTH := Lib.hid (show ∀ (j : Nat) (h : j < l.length), j < k → l[j].n ≠ l[k].n from fun j h hj e => by
        have := List.pairwise_iff_getElem.1 HV.out.inc j k h hlt hj; omega)
      have HN : Hid (l[k].n = l[k].n) := Lib.hid rfl
      clear hrow hnum
      generalize hgs : l[k] = s at *
      replace HN := Lib.hid (congrArg St.n hgs)
      clear hgs
      obtain ⟨s0, s1, s2, s3, s4⟩ := s
      dsimp only at e_0 e_1 HSTEP HPRE HOTH hx HN
      obtain rfl : s4.length = s2 := HSO.out.1.len
      have hs4 : s4.length ≤ 9223372036854775807 := by have h1 := HSO.out.1.le; have h2 := HSO.out.1.max; unfold maxLen at h2; dsimp only at h1 h2; omega
      obtain ⟨NS, hNS⟩ : ∃ N, wr.heap.size = N := ⟨_, rfl⟩
      obtain ⟨W2, hW2, hB2, hZ2, hb2⟩ := boxes1 wr [.int .i64 s0, .slice s1 s4.length s3] 44
      rw [hNS] at hb2 HA
      have H_s := Lib.hid hb2
      have HB_W2 : Below w.heap.size w W2 := after0 HB_wr hB2
      replace HM := Lib.hid (HM.out.below hB2)
      replace HA := Lib.hid (HA.out.low hB2 (by omega))
      have HSA := Lib.hid (show Sl W2 1 cI s1 s4.length s3 s4 from HSO.out.1.below HB_W2)
      clear hb2 hB2
      obtain ⟨q_s_0, q_s_1⟩ := H_s.out.c2
      go_wp2_with fail
      refine (newSet_any _ _ _ s4 _ HSA.out HSO.out.2).mono ?_
      rintro e w3 ⟨mb, rfl, hmb, hset, hb3⟩
      have HB_w3 : Below w.heap.size w w3 := after0 HB_W2 hb3
      have HB23 := Lib.hid hb3
      have hml := hset.lt
      have HSE := Lib.hid ((hset.tight (l.map St.n) (fun x _ hx => by
        rw [List.contains_eq_mem, decide_eq_true_eq] at hx
        obtain ⟨j, hj, _, rfl⟩ := HPRE.out x hx
        exact List.mem_map.2 ⟨_, List.getElem_mem hj, rfl⟩)).mono (n' := 200) (by rw [List.length_map]; exact hl200))
      replace H_s := Lib.hid (H_s.out.below hb3)
      replace HM := Lib.hid (HM.out.below hb3)
      replace HA := Lib.hid (HA.out.low hb3 (by omega))
      have hNSm : NS < mb := by omega
      have hAm : bA < mb := by omega
      clear hset hb3 hW2 hNS q_s_0 q_s_1 e_0 e_1 HSA hZ2
      obtain ⟨q_s_0, q_s_1⟩ := H_s.out.c2
      go_wp2_with fail
      clear q_s_0 q_s_1
      go_loopw [32] (fun i wv => ∃ (j : Nat), j ≤ s4.length ∧ i = .int .i64 j ∧ Below w.heap.size w wv ∧ Below mb w3 wv ∧ mb < wv.heap.size ∧ Hid (SetOf wv mb 200 (fun x => s4.contains x || (s4.take j).any (fun a => ahd l a x)))) (fun i _ => s4.length - (intOf i).toNat)
      case atStart => exact ⟨0, Nat.zero_le _, rfl, HB_w3, Below.refl _ _, hml, (HSE.out.congr (fun x _ => by simp) : _)⟩
      case round =>
        clear HSE HB_w3 hml
        obtain ⟨j, hj, rfl, HB_wr, HB3, hmr, HSE⟩ := hrel
        by_cases hlj : j < s4.length
        · have HSI := Lib.hid (show Sl wr 1 cI s1 s4.length s3 s4 from HSO.out.1.below HB_wr)
          obtain ⟨b2, off2, rfl, hb2, hrow2⟩ := HSI.out.get hlj
          have e_0 := (hrow2 j hlj).c1
          rw [Nat.mul_one] at e_0
          have h64 := HSO.out.2 s4[j] (List.getElem_mem hlj)
          obtain ⟨ia, hia, hik, hian⟩ := HPRE.out s4[j] (List.getElem_mem hlj)
          obtain ⟨ba, hfa, hba1, hba2, hset⟩ := (HA.out.low HB3 (by omega)) ia hia hik
          rw [hian] at hfa hset
          have HTK := Lib.hid (show ∀ x, (s4.take (j + 1)).any (fun a => ahd l a x) = ((s4.take j).any (fun a => ahd l a x) || ahd l s4[j] x) from fun x => by
            rw [List.take_add_one, List.getElem?_eq_getElem hlj, Option.toList_some, List.any_append]; simp)
          clear hrow2 hian hik hia
          generalize s4[j] = a at *
          have hlook := (HM.out.low HB3 hAm).look h64 hfa
          obtain ⟨D, hown, hhas, _⟩ := hset
          have hsize := hown.size_le
          have HHAS := Lib.hid hhas
          clear hhas hfa
          go_wp2_with (at_range; refine wpList_range_own _ rfl _ 52 rfl 3 4 lawI Try.underlying52 _ ba 200 D rfl hown ?_; intro w0 hrg0 hg0 hs0)
          go_frame
          obtain ⟨R, hR⟩ : ∃ R, wr.heap.size = R := ⟨_, rfl⟩
          rw [hR] at hrg0 hs0
          have HRG0 := Lib.hid hrg0
          have HB0 : Below w.heap.size w w0 := HB_wr.grown hg0 HB_wr.size (fun j hj => by cases hj)
          have HB30 : Below mb w3 w0 := HB3.grown hg0 (by omega) (fun j hj => by cases hj)
          have HSE0 := Lib.hid ((HSE.out.kept hg0 (by simp)).congr (S' := fun x => (s4.contains x || (s4.take j).any (fun a => ahd l a x)) || (ahd l a x && !Maps.has D (.int .i64 x))) (fun x hx => by rw [HHAS.out x hx]; cases ahd l a x <;> simp))
          have hs0' : R < w0.heap.size := by omega
          have hmR : mb < R := by omega
          rw [hR]
          clear hR hrg0 hg0 hs0 hown HB_wr HB3 hmr HSE hlook e_0
          go_loopw [11] (fun _ wr => ∃ (left : Lit → Bool) (cnt n' : Nat), Hid (wr.ranges Try.prog 3 (plainElem Try.prog 4) ba R 200 D left cnt) ∧ Hid (SetOf wr mb n' (fun x => (s4.contains x || (s4.take j).any (fun a => ahd l a x)) || (ahd l a x && !left (.int .i64 x)))) ∧ n' + cnt ≤ 400 ∧ Below w.heap.size w wr ∧ Below mb w3 wr ∧ R < wr.heap.size) (fun _ wr => wr.rangeLeft ba R)
          case atStart => exact ⟨_, _, 200, HRG0.out, HSE0.out, by omega, HB0, HB30, hs0'⟩
          case round =>
            clear HRG0 HSE0 HB0 HB30 hs0'
            obtain ⟨left, cnt, n', HRG, HSE, hcnt, HB_wr, HB3, hsr⟩ := hrel
            go_wp2_with (at_next; refine wpList_next_ranges _ rfl _ rfl 3 lawI (plainElem Try.prog 4) (Value.int .i64) Value.bool (fun key kl hk => by obtain ⟨x, rfl, _⟩ := key_int_inv hk; exact ⟨x, rfl⟩) (fun v y hv => by obtain ⟨c, rfl, _⟩ := plainElem_bool_inv hv; exact ⟨c, rfl⟩) ba R 200 D left cnt rfl HRG.out ?_ ?_)
            · intro hc0 hl0
              have HSN := Lib.hid (((HSE.out.congr (S' := fun x => s4.contains x || (s4.take (j + 1)).any (fun a => ahd l a x)) (fun x hx => by rw [HTK.out x, hl0]; simp [Bool.or_assoc])).tight (l.map St.n) (fun x _ hx => by
                simp only [Bool.or_eq_true, List.contains_eq_mem, decide_eq_true_eq, List.any_eq_true] at hx
                rcases hx with hx | ⟨a', _, hx⟩
                · obtain ⟨j', hj', _, rfl⟩ := HPRE.out x hx
                  exact List.mem_map.2 ⟨_, List.getElem_mem hj', rfl⟩
                · exact ahd_sub HV.out hx)).mono (n' := 200) (by rw [List.length_map]; exact hl200))
              clear hl0 hc0 hcnt HSE HRG
              go_wp2_with fail
              go_roundw
              case rel => exact ⟨j + 1, hlj, by go_num, HB_wr, HB3, by omega, HSN.out⟩
              case measure => simp [intOf]; omega
            · intro x
              constructor
              all_goals
                intro kl dd ps w2 cnt2 hkey hlk hv hat hrg2 hlt' hg2 hs2 hen
                obtain ⟨x', ex, rfl, hx64⟩ := key_int_inv hkey
                cases ex
                have hhx : ahd l a x = true := (HHAS.out x hx64).symm.trans (Maps.has_true_of_atKey hat)
                have HRG2 := Lib.hid hrg2
                have hsz2 : R < w2.heap.size := by rw [hs2]; exact hsr
                have HB_w2 : Below w.heap.size w w2 := HB_wr.grown hg2 HB_wr.size (fun j hj => by cases hj; omega)
                have HB32 : Below mb w3 w2 := HB3.grown hg2 (by omega) (fun j hj => by cases hj; omega)
                have hset2 := HSE.out.kept hg2 (fun e => by have := Option.some.inj e; omega)
                have hn' : n' < maxLen := by unfold maxLen; omega
                clear hs2 hat hv hlk hg2 hrg2 hkey HSE
                go_wp2_with (at_mapUpdate; refine wpList_put_set rfl _ _ _ rfl mb _ _ rfl hset2 hn' x rfl rfl hx64 ?_; intro w6 hset6 hg6)
                go_frame
                have HRG6 := Lib.hid (HRG2.out.kept hg6 (fun e => by have := Option.some.inj e; omega) (fun e => by have := Option.some.inj e; omega))
                have HS6 := Lib.hid (hset6.congr (S' := fun z => (s4.contains z || (s4.take j).any (fun a => ahd l a z)) || (ahd l a z && !(left (.int .i64 z) && !(Lit.int .i64 z).sameKey (.int .i64 x)))) (fun z hz => by
                  by_cases hzx : z = x
                  · subst hzx
                    rw [WideAt.sameKey_self (kli _)]
                    simp [hhx]
                  · rw [Maps.sameKey_ne (a := .int .i64 z) (b := .int .i64 x) (by simp; exact hzx)]
                    simp [hzx]))
                have HB_w6 : Below w.heap.size w w6 := HB_w2.grown hg6 HB_w2.size (fun j hj => by cases hj; omega)
                have HB36 : Below mb w3 w6 := HB32.grown hg6 (by omega) (fun j hj => by cases hj; omega)
                have hs6 : R < w6.heap.size := Nat.lt_of_lt_of_le hsz2 hg6.size
                clear hset6 hg6 hset2 hen
                go_wp2_with fail
                go_roundw
                case rel => exact ⟨_, cnt2, n' + 1, HRG6.out, HS6.out, by omega, HB_w6, HB36, hs6⟩
                case measure =>
                  rw [HRG6.out.left_eq, HRG.out.left_eq]
                  exact hlt'
        · obtain rfl : j = s4.length := by omega
          rw [List.take_length] at HSE
          have HS1 := Lib.hid (HSE.out.congr (S' := ahd l s0) (fun x _ => (HSTEP.out x).symm))
          replace H_s := Lib.hid (show Box wr NS 44 [.int .i64 s0, .slice s1 s4.length s3] from (HB3.block NS hNSm).trans H_s.out)
          have HM1 := HM.out.low HB3 hAm
          replace HA := Lib.hid (HA.out.low HB3 (by omega))
          have hkm : k < maxLen := by unfold maxLen; omega
          clear HSE
          obtain ⟨q_s_0, q_s_1⟩ := H_s.out.c2
          go_wp2_with (at_mapUpdate; refine wpList_put_map rfl _ _ _ rfl bA k f rfl HM1 hkm s0 mb rfl rfl hx ?_; intro w7 hm7 hg7)
          try go_frame
          have HM7 := Lib.hid hm7
          have HA7 := Lib.hid (show Ahead w7 bA w7.heap.size l (k + 1) (fun z => if z = s0 then some mb else f z) from by
            have h := HS1.out
            have hne := HOTH.out
            have he : l[k].n = s0 := HN.out
            rw [← he] at h hne ⊢
            exact HA.out.put hlt hne h hAm hmr (by omega) hg7)
          have HB_w7 : Below w.heap.size w w7 := HB_wr.grown hg7 HB_wr.size (fun j hj => by cases hj; omega)
          have hs7 : bA < w7.heap.size := Nat.lt_of_lt_of_le (by omega) hg7.size
          clear hm7 hg7 HM1 HS1 HA q_s_0 q_s_1
          go_wp2_with fail
          go_roundw
          case rel => exact ⟨k + 1, _, hlt, by go_num, HB_w7, HM7.out, HA7.out, hs7⟩
          case measure => simp [intOf]; omega
    · obtain rfl : k = l.length := by omega
      obtain ⟨W4, rfl⟩ : ∃ X, X = wr := ⟨_, rfl⟩
      obtain ⟨B4, hB4⟩ : ∃ N, W4.heap.size = N := ⟨_, rfl⟩
      rw [hB4] at HA
      have HB_W4 := HB_wr
      obtain ⟨i0, hi, hz0, hz1, hz2⟩ := info_parts info_pair
      have HI := Lib.hid hi
      have HZ0 := Lib.hid hz0
      have HZ1 := Lib.hid hz1
      have HZ2 := Lib.hid hz2
      have hwB4 : w.heap.size ≤ B4 := by omega
      have hAB4 : bA < B4 := by omega
      clear hi hz0 hz1 hz2 HB_wr hlt hsz hk
      go_wp2_with fail
      go_loopw [4, 54] (fun o i wr => ∃ k : Nat, k ≤ l.length ∧ i = .int .i64 k ∧ Hid (Below B4 W4 wr) ∧ B4 ≤ wr.heap.size ∧ Hid (OwnL wr B4 46 2 cP o (besP l k))) (fun _ i _ => l.length - (intOf i).toNat)
      case atStart => exact ⟨0, Nat.zero_le _, rfl, Below.refl _ _, by omega, OwnL.nil⟩
      case round =>
        obtain ⟨k, hk, rfl, HB4, hsr, HO⟩ := hrel
        have HB_wr : Below w.heap.size w wr := HB_W4.trans (HB4.out.mono hwB4)
        by_cases hlt : k < l.length
        · have HSW := Lib.hid (HS0.out.below HB_wr)
          obtain ⟨ta, htt, hsl⟩ := slice_tail (P := Try.prog) (t := 22) (by kernel_rfl) (fun W => by kernel_rfl) HS0.out.1 (k + 1) (by omega)
          rw [show ((k + 1 : Nat) : Int) = (k : Int) + 1 from by omega] at htt
          obtain ⟨b', off, rfl, hb, hrow⟩ := HSW.out.1.get hlt
          obtain ⟨e_0, e_1⟩ := (hrow k hlt).c2
          have hnum := HV.out.num _ (List.getElem_mem hlt)
          have hx : I64 l[k].n := i64_of (by omega) (by omega)
          have HROW := Lib.hid (besP_succ hlt)
          have HTL := Lib.hid (show ∀ (q : Nat) (h : q < (l.drop (k + 1)).length), I64 (l.drop (k + 1))[q].n ∧ ∃ b, f (l.drop (k + 1))[q].n = some b ∧ bA < b ∧ b < B4 ∧ SetOf W4 b 200 (ahd l (l.drop (k + 1))[q].n) from fun q h => by
            have h1 : k + 1 + q < l.length := by rw [List.length_drop] at h; omega
            have h2 := HV.out.num _ (List.getElem_mem h1)
            have h3 := HA.out (k + 1 + q) h1 h1
            rw [List.getElem_drop]
            exact ⟨i64_of (by omega) (by omega), h3⟩)
          have hys := besP_len l k
          have hlt' : (l.drop (k + 1)).length = l.length - (k + 1) := List.length_drop
          have hsq : k * l.length ≤ 200 * 200 := Nat.mul_le_mul (by omega) hl200
          clear hrow hnum
          rw [← hlt'] at htt hsl
          have HSL := Lib.hid hsl
          generalize l.drop (k + 1) = tl at *
          generalize l[k] = s at *
          obtain ⟨s0, s1, s2, s3, s4⟩ := s
          dsimp only at e_0 e_1 hx HROW
          generalize besP l k = ys at *
          obtain ⟨NS, hNS⟩ : ∃ N, wr.heap.size = N := ⟨_, rfl⟩
          obtain ⟨W2, hW2, hB2, hZ2, hb2⟩ := boxes1 wr [.int .i64 s0, .slice s1 s2 s3] 44
          rw [hNS] at hb2
          have H_s := Lib.hid hb2
          have HB42 := Lib.hid (HB4.out.trans (hB2.mono hsr))
          have HO2 := Lib.hid (HO.out.below hB2)
          have hs2 : NS < W2.heap.size := by omega
          have hN4 : B4 ≤ NS := by omega
          have htl : tl.length ≤ 200 := by omega
          have hys2 : ys.length ≤ 40000 := by omega
          clear hb2 hB2 hsl
          go_wp2_with fail
          clear htt hW2
          go_loopw [4, 64] (fun o i wv => ∃ q : Nat, q ≤ tl.length ∧ i = .int .i64 q ∧ Hid (Below B4 W4 wv) ∧ NS < wv.heap.size ∧ Hid (OwnL wv B4 46 2 cP o (ys ++ besQ l s0 (tl.take q))) ∧ Hid (Box wv NS 44 [.int .i64 s0, .slice s1 s2 s3])) (fun _ i _ => tl.length - (intOf i).toNat)
          case atStart => exact ⟨0, Nat.zero_le _, rfl, HB42.out, hs2, by rw [List.take_zero, besQ_nil, List.append_nil]; exact HO2.out, H_s.out⟩
          case round =>
            clear H_s HB42 HO2 hs2 HB4 HO hsr HSW HB_wr e_0 e_1 hb hZ2 hNS
            obtain ⟨q, hq, rfl, HB4, hsr, HO, H_s⟩ := hrel
            have HB_wr : Below w.heap.size w wr := HB_W4.trans (HB4.out.mono hwB4)
            by_cases hlq : q < tl.length
            · obtain ⟨b2, off2, rfl, hb2, hrow2⟩ := (HSL.out.below HB_wr).get hlq
              obtain ⟨d_0, d_1⟩ := (hrow2 q hlq).c2
              obtain ⟨ht64, bt, hft, hbt1, hbt2, hset⟩ := HTL.out q hlq
              have HST := Lib.hid (besQ_succ (l := l) (a := s0) hlq)
              have hql := besQ_len l s0 (tl.take q)
              rw [List.length_take] at hql
              clear hrow2
              generalize besQ l s0 (tl.take q) = zs at *
              generalize tl[q] = t at *
              obtain ⟨t0, t1, t2, t3, t4⟩ := t
              dsimp only at d_0 d_1 ht64 hft hset HST
              obtain ⟨NT, hNT⟩ : ∃ N, wr.heap.size = N := ⟨_, rfl⟩
              obtain ⟨W3, hW3, hB3, hZ3, hb3⟩ := boxes1 wr [.int .i64 t0, .slice t1 t2 t3] 44
              rw [hNT] at hb3
              have H_t := Lib.hid hb3
              have HB43 := Lib.hid (HB4.out.trans (hB3.mono (by omega)))
              have HO3 := Lib.hid (HO.out.below hB3)
              have HSO := Lib.hid (show Box W3 NS 44 [.int .i64 s0, .slice s1 s2 s3] from (hB3.block NS hsr).trans H_s.out)
              have hlook1 := (HM.out.low HB43.out hAB4).look ht64 hft
              have hs3 : NS < W3.heap.size := by omega
              clear hZ3
              cases hc : ahd l t0 s0
              · have hlook2 := (hset.low HB43.out hbt2).look hx hc
                replace H_s := HSO
                clear hb3 hB3 HO HSO
                obtain ⟨q_t_0, q_t_1⟩ := H_t.out.c2
                obtain ⟨q_s_0, q_s_1⟩ := H_s.out.c2
                have HN := Lib.hid (show besQ l s0 (tl.take (q + 1)) = zs ++ [(s0, t0)] by rw [HST.out, hc]; rfl)
                have HOX := Lib.hid (HO3.out.alloc (.cells #[.int .i64 s0, .int .i64 t0] 46))
                have HSX : Hid (Sl (W3.alloc (.cells #[.int .i64 s0, .int .i64 t0] 46)) 2 cP (some ⟨W3.heap.size, 0, none⟩) 1 1 [(s0, t0)]) := Sl.one (x := (s0, t0)) cP_len (Box.new W3 (cP (s0, t0)) 46)
                have hsz : B4 ≤ (W3.alloc (.cells #[.int .i64 s0, .int .i64 t0] 46)).heap.size := by simp; omega
                have hlz : (ys ++ zs).length ≤ 50000 := by rw [List.length_append]; omega
                clear hc
                go_wp2_with (at_builtin; refine wpList_append_sl rfl _ _ 34 rfl B4 46 i0 _ 2 16 Try.underlying34 HI.out HZ0.out HZ1.out HZ2.out rfl (by decide) cP_len cP_one _ (ys ++ zs) rfl HOX.out (some ⟨W3.heap.size, 0, none⟩) 1 1 [(s0, t0)] rfl HSX.out (by unfold maxLen; omega) (by omega) hsz ?_)
                rintro v' w6 ho6 hg6 hgr6
                have HB6 := Lib.hid (show Below B4 W4 w6 from by have h := HB43.out; rw [← hB4] at h ⊢; exact (grew1 h).trans (hg6 _ (by omega)))
                have HO6 := Lib.hid ho6
                have hs6 : NS < w6.heap.size := Nat.lt_of_lt_of_le (by simp; omega) hgr6.size
                have H6 : Hid (Box w6 NS 44 [.int .i64 s0, .slice s1 s2 s3]) := Lib.hid (Box.grown (Box.alloc H_s.out _) hgr6 (own_ne_box HO3.out H_s.out (by decide)))
                clear ho6 hg6 hgr6 hW3 hlook1 hlook2 HOX HSX hsz
                go_wp2_with fail
                go_roundw
                case rel => exact ⟨q + 1, hlq, by go_num, HB6.out, hs6, by rw [HN.out]; exact HO6.out, H6.out⟩
                case measure => simp [intOf]; omega
              · have hlook2 := (hset.low HB43.out hbt2).look hx hc
                replace H_s := HSO
                have HN := Lib.hid (show besQ l s0 (tl.take (q + 1)) = zs by rw [HST.out, hc]; rfl)
                have hs6 := hs3
                clear hb3 hB3 HO HSO hc
                obtain ⟨q_t_0, q_t_1⟩ := H_t.out.c2
                obtain ⟨q_s_0, q_s_1⟩ := H_s.out.c2
                go_wp2_with fail
                clear hW3 hlook1 hlook2
                go_roundw
                case rel => exact ⟨q + 1, hlq, by go_num, HB43.out, hs6, by rw [HN.out]; exact HO3.out, H_s.out⟩
                case measure => simp [intOf]; omega
            · obtain rfl : q = tl.length := by omega
              rw [List.take_length] at HO
              have hs7 : B4 ≤ wr.heap.size := by omega
              go_wp2_with fail
              go_roundw
              case rel => exact ⟨k + 1, hlt, by go_num, HB4.out, hs7, by rw [HROW.out]; exact HO.out⟩
              case measure => simp [intOf]; omega
        · obtain rfl : k = l.length := by omega
          obtain ⟨vo, vc, rfl, hss⟩ := HO.out.sl cP_len
          have HSS := Lib.hid hss
          clear HO hss
          go_wp2_with fail
          go_ret2
          exact ⟨vo, _, vc, by rw [HP.out]; rfl, by rw [HP.out]; exact HSS.out, HB_wr⟩
end Go.Proofs.Ytofilkphaelceaa
