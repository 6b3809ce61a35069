/- The walks of the program's 'normal' and 'Normal'. Conditions: as stated. -/
import Derived.Test.YtjmfknfponjgkaaGreatDoorJRuS
import Derived.Test.YtjmfknfponjgkaaGreatDoorJRub
import Derived.Test.YtjmfknfponjgkaaGreatDoorJPhi
set_option maxRecDepth 100000
namespace Go.Proofs.YtjmfknfponjgkaaGreatDoor
section
open Go.RowKit
theorem joinStr (v : Value) (xs : List (List UInt8)) (sep : ByteArray) (w : World) (h : StrsIn w v xs) (hn : xs.length <= 140737488355328) (hlen : (Lib.join xs sep.data.toList).length <= 140737488355328) :
  Calls Tryz.prog 100 #[v, .string sep] w fun e w' => e = .returned (.string ⟨(Lib.join xs sep.data.toList).toArray⟩) /\ Below w.heap.size w w' := by
 obtain ⟨a, c, rfl, hc, h⟩ := h
 rcases h with rfl | ⟨g, o, rfl, hg, h⟩
 · refine (Tryz.strings_Join_none a c sep w).mono ?_
   rintro e w' ⟨rfl, rfl⟩
   exact ⟨rfl, Below.refl _ _⟩
 · have e1 : (xs.map (fun x => (⟨x.toArray⟩ : ByteArray))).map (·.data.toList) = xs := by
    rw [List.map_map]
    exact (List.map_congr_left (fun x _ => rfl)).trans (List.map_id xs)
   have e2 : (xs.map (fun x => (⟨x.toArray⟩ : ByteArray))).length = xs.length := List.length_map _
   have hj := Tryz.strings_Join g o c (xs.map (fun x => (⟨x.toArray⟩ : ByteArray))) sep w (fun j x hx => by
    rw [List.getElem?_map] at hx
    cases hx2 : xs[j]? with
    | none => rw [hx2] at hx; cases hx
    | some y =>
     rw [hx2] at hx
     have hx := Option.some.inj hx
     subst hx
     exact h j y hx2) hg (by rw [e2]; exact hn) (by rw [e2]; exact hc) (by rw [e1]; exact hlen)
   rw [e1, e2] at hj
   exact hj
theorem parse_range {l : List UInt8} {v : Int} (h : Lib.parseIntB 64 l = .ok v) : -9223372036854775808 <= v /\ v <= 9223372036854775807 := by
 unfold Lib.parseIntB at h
 split at h
 · cases h
 · rename_i c r
   simp only at h
   split at h
   · cases h
   · cases h
   · rename_i u hu
     by_cases h1 : ¬ c.toNat = 45 /\ 2 ^ (64 - 1) <= u
     · rw [if_pos h1] at h; cases h
     · rw [if_neg h1] at h
       by_cases h2 : c.toNat = 45 /\ 2 ^ (64 - 1) < u
       · rw [if_pos h2] at h; cases h
       · rw [if_neg h2] at h
         injection h with h
         have e : (2 : Nat) ^ (64 - 1) = 9223372036854775808 := by decide
         rw [e] at h1 h2
         split at h <;> omega
theorem parseInt64_ok (s : ByteArray) (hs : s.size <= 281474976710656) (v : Int) (h : Lib.parseIntB 64 s.data.toList = .ok v) (w : World) :
  Calls Tryz.prog 106 #[.string s, .int .i64 10, .int .i64 64] w fun e w' => e = .returned (.tuple #[.int .i64 v, .nilIface]) /\ Below w.heap.size w w' := by
 refine (Tryz.strconv_ParseInt_10_at64_ok s (by omega) v h w).mono ?_
 rintro e w' ⟨he, hw⟩
 refine ⟨he, ?_⟩
 rcases hw with rfl | ⟨t, rfl⟩
 · exact Below.refl _ _
 · exact Lib.bytesWorld_below _ _ _
theorem parseInt64_no (s : ByteArray) (hs : s.size <= 281474976710656) (h : ∀ v, Lib.parseIntB 64 s.data.toList ≠ .ok v) (w : World) (hE : Env w) :
  Calls Tryz.prog 106 #[.string s, .int .i64 10, .int .i64 64] w fun e w' => ∃ n N, e = .returned (.tuple #[.int .i64 n, .iface 204 (.pointer (some ⟨N, 0, none⟩))]) /\ Below w.heap.size w w' := by
 obtain ⟨tp, p, hsyn⟩ := hE.syn
 obtain ⟨tp', p', hrng⟩ := hE.rng
 cases hr : Lib.parseIntB 64 s.data.toList with
 | ok v => exact absurd hr (h v)
 | range =>
  refine (Any.strconv_ParseInt_10_at64_range Tryz.laysC174 s hs hr (.iface tp' p') w hrng (Or.inr ⟨_, _, rfl⟩)).mono ?_
  rintro e w' ⟨N, he, _, _, hb⟩
  exact ⟨_, N, he, hb⟩
 | _ =>
  refine (Any.strconv_ParseInt_10_at64_syntax Tryz.laysC174 s hs hr (.iface tp p) w hsyn (Or.inr ⟨_, _, rfl⟩)).mono ?_
  rintro e w' ⟨N, he, _, _, hb⟩
  exact ⟨_, N, he, hb⟩
def NormInner (syn : Int) (l : List UInt8) (w : World) (e : Ending) (w' : World) : Prop :=
 ∃ t : List UInt8, e = .returned (.tuple #[.string ⟨t.toArray⟩, .bool (RuS.normV syn l).isSome]) /\ (∀ s, RuS.normV syn l = some s -> t = s) /\ Below w.heap.size w w'
theorem wordsL_count (l : List UInt8) : (RuS.wordsL l).length <= l.length + 1 := by
 unfold RuS.wordsL
 have h1 := List.length_filter_le (fun p : List UInt8 => !p.isEmpty) (RuS.pieces 32 l)
 have h2 := pieces_length 32 l
 omega
theorem normal1_c (s : ByteArray) (hs : s.size <= 1000000) (w : World) (hE : Env w) : Calls Tryz.prog 98 #[.int .i64 1, .string s] w (NormInner 1 s.data.toList w) := by
 have hlow := fun w => lower_c s (by omega) w
 unfold LowRet at hlow
 have hsl := Lib.size_eq s
 have hll := RuS.lower_length s.data.toList
 have hwd := fun w hE => words_c ⟨(RuS.lower s.data.toList).toArray⟩ (by show (RuS.lower s.data.toList).length <= _; omega) w hE
 unfold WordsRet at hwd
 have hdl : (⟨(RuS.lower s.data.toList).toArray⟩ : ByteArray).data.toList = RuS.lower s.data.toList := rfl
 rw [hdl] at hwd
 have hcnt := wordsL_count (RuS.lower s.data.toList)
 have htl := RuS.textS_le s.data.toList
 have hte : RuS.textS s.data.toList = Lib.join (RuS.wordsL (RuS.lower s.data.toList)) [32] := rfl
 have HT := hZ9 hte
 rw [hte] at htl
 have hjn := fun v w h => joinStr v (RuS.wordsL (RuS.lower s.data.toList)) ⟨#[32]⟩ w h (by omega) (by show (Lib.join (RuS.wordsL (RuS.lower s.data.toList)) [32]).length <= _; omega)
 have hdj : (⟨#[32]⟩ : ByteArray).data.toList = [32] := rfl
 rw [hdj] at hjn
 rw [<- hte] at hjn
 have HZ := hZ9 (RuS.textS_zero s.data.toList)
 clear hte hdj hdl hcnt htl
 have HN : Hid (RuS.normV 1 s.data.toList = if (RuS.textS s.data.toList).isEmpty || RuS.hasNul s.data.toList then none else some (RuS.textS s.data.toList)) := hZ9 rfl
 generalize RuS.textS s.data.toList = tx at *
 generalize RuS.wordsL (RuS.lower s.data.toList) = ws at *
 generalize RuS.lower s.data.toList = lo at *
 clear hsl hll
 have hib := fun w => Tryz.strings_IndexByte ⟨tx.toArray⟩ 0 w
 have hdt : (⟨tx.toArray⟩ : ByteArray).data.toList = tx := rfl
 have hz8 : ((0 : Int).toNat.toUInt8) = 0 := rfl
 rw [hdt, hz8] at hib
 clear hdt hz8
 have HIB := hZ9 (RuS.indexByte_none tx 0)
 generalize Lib.indexByte tx 0 = ix at *
 go_enter Tryz.func98, Tryz.ntmps98
 go_wp2_with fail
 refine (hlow _).mono ?_; rintro e w1 ⟨rfl, hb1⟩
 go_wp2_with fail
 refine (hwd _ (hE.below hb1)).mono ?_; rintro e w2 ⟨v, rfl, hst, hb2⟩
 go_wp2_with fail
 refine (hjn _ _ hst).mono ?_; rintro e w3 ⟨rfl, hb3⟩
 have hb123 := below_trans hb1 (below_trans hb2 hb3)
 cases he : tx.isEmpty with
 | true =>
  have HE := hZ9 he
  go_wp2_with fail
  go_ret2
  exact ⟨tx, by rw [HN.out, HE.out]; rfl, fun s hs => (by rw [HN.out, HE.out] at hs; cases hs), hb123⟩
 | false =>
  have HE := hZ9 he
  by_cases hix : ix < 0
  · have HX := hZ9 hix
    go_wp2_with fail
    refine (hib _).mono ?_; rintro e w4 ⟨rfl, rfl⟩
    go_wp2_with fail
    go_ret2
    have hno : RuS.hasNul s.data.toList = false := by
     unfold RuS.hasNul; rw [decide_eq_false_iff_not, <- HZ.out]; exact HIB.out.1 HX.out
    exact ⟨tx, by rw [HN.out, HE.out, hno]; rfl, fun s hs => by rw [HN.out, HE.out, hno] at hs; exact Option.some.inj hs, hb123⟩
  · have HX := hZ9 hix
    have hdx : decide (ix < 0) = false := decide_eq_false hix
    clear hix
    go_wp2_with fail
    refine (hib _).mono ?_; rintro e w4 ⟨rfl, rfl⟩
    go_wp2_with fail
    go_ret2
    have hno : RuS.hasNul s.data.toList = true := by
     unfold RuS.hasNul
     rw [decide_eq_true_eq, <- HZ.out]
     exact Decidable.byContradiction fun hc => by have h1 := HIB.out.2 hc; have h2 := HX.out; omega
    exact ⟨tx, by rw [HN.out, HE.out, hno]; rfl, fun s hs => (by rw [HN.out, HE.out, hno] at hs; cases hs), hb123⟩
theorem normal2_c (s : ByteArray) (w : World) : Calls Tryz.prog 98 #[.int .i64 2, .string s] w (NormInner 2 s.data.toList w) := by
 go_enter Tryz.func98, Tryz.ntmps98
 go_wp2_with fail
 go_ret2
 exact ⟨s.data.toList, rfl, fun t ht => Option.some.inj ht, Below.refl _ _⟩
theorem normal4_c (s : ByteArray) (hs : s.size <= 1000000) (w : World) (hE : Env w) : Calls Tryz.prog 98 #[.int .i64 4, .string s] w (NormInner 4 s.data.toList w) := by
 have hp := fun w hE => parse_c s (by omega) w hE
 unfold ParseP at hp
 have HN : Hid (RuS.normV 4 s.data.toList = if (PhS.parseP s.data.toList).isSome then some s.data.toList else none) := hZ9 rfl
 cases hq : PhS.parseP s.data.toList with
 | none =>
  rw [hq] at hp
  simp only at hp
  have HQ := hZ9 hq
  clear hq
  go_enter Tryz.func98, Tryz.ntmps98
  go_wp2_with fail
  refine (hp _ hE).mono ?_; rintro e w1 ⟨rfl, hb1⟩
  go_wp2_with fail
  go_ret2
  exact ⟨s.data.toList, by rw [HN.out, HQ.out]; rfl, fun t ht => (by rw [HN.out, HQ.out] at ht; cases ht), hb1⟩
 | some p =>
  obtain ⟨a, b⟩ := p
  rw [hq] at hp
  simp only at hp
  have HQ := hZ9 hq
  clear hq
  go_enter Tryz.func98, Tryz.ntmps98
  go_wp2_with fail
  refine (hp _ hE).mono ?_; rintro e w1 ⟨rfl, hb1⟩
  go_wp2_with fail
  go_ret2
  exact ⟨s.data.toList, by rw [HN.out, HQ.out]; rfl, fun t ht => by rw [HN.out, HQ.out] at ht; exact Option.some.inj ht, hb1⟩
theorem mk_str (s : ByteArray) : (⟨s.data.toList.toArray⟩ : ByteArray) = s := by obtain ⟨⟨l⟩⟩ := s; rfl
theorem normal3_no (s : ByteArray) (hs : s.size <= 1000000) (hp : ∀ v, Lib.parseIntB 64 s.data.toList ≠ .ok v) (w : World) (hE : Env w) : Calls Tryz.prog 98 #[.int .i64 3, .string s] w (NormInner 3 s.data.toList w) := by
 have hpi := fun w hE => parseInt64_no s (by omega) hp w hE
 have HN : Hid (RuS.normV 3 s.data.toList = none) := hZ9 (by
  show (if (RuS.intS s.data.toList).isSome then some s.data.toList else none) = none
  have : RuS.intS s.data.toList = none := by
   unfold RuS.intS
   split
   · rename_i n hn; exact absurd hn (hp n)
   · rfl
  rw [this]; rfl)
 clear hp
 go_enter Tryz.func98, Tryz.ntmps98
 go_wp2_with fail
 refine (hpi _ hE).mono ?_; rintro e w1 ⟨n, N, rfl, hb1⟩
 go_wp2_with fail
 go_ret2
 exact ⟨s.data.toList, by rw [HN.out]; rfl, fun t ht => (by rw [HN.out] at ht; cases ht), hb1⟩
theorem normal3_ok (s : ByteArray) (hs : s.size <= 1000000) (v : Int) (hp : Lib.parseIntB 64 s.data.toList = .ok v) (w : World) (hE : Env w) : Calls Tryz.prog 98 #[.int .i64 3, .string s] w (NormInner 3 s.data.toList w) := by
 have hpi := fun w => parseInt64_ok s (by omega) v hp w
 have hr := parse_range hp
 have hfm := fun w hE => fmtInt v hr.1 hr.2 w hE
 have htp := fun w => Tryz.strings_TrimPrefix s ⟨#[45]⟩ w
 have hd45 : (⟨#[45]⟩ : ByteArray).data.toList = [45] := rfl
 rw [hd45] at htp
 clear hd45
 have HN : Hid (RuS.normV 3 s.data.toList = if (Lib.itoa v == s.data.toList) && decide ((Lib.trimPrefix s.data.toList [45]).length <= 18) then some s.data.toList else none) := hZ9 (by
  show (if (RuS.intS s.data.toList).isSome then some s.data.toList else none) = _
  unfold RuS.intS
  rw [hp]
  simp only
  split <;> rfl)
 clear hp hr
 generalize Lib.itoa v = iv at *
 have htl : s.data.toList = s.toList := (Lib.toList_data s).symm
 have HTL := hZ9 htl
 clear htl
 cases h1 : (iv == s.toList) with
 | false =>
  have H1 : Hid ((iv == s.data.toList) = false) := hZ9 (by rw [HTL.out]; exact h1)
  go_enter Tryz.func98, Tryz.ntmps98
  go_wp2_with fail
  refine (hpi _).mono ?_; rintro e w1 ⟨rfl, hb1⟩
  go_wp2_with fail
  refine (hfm _ (hE.below hb1)).mono ?_; rintro e w2 ⟨rfl, hb2⟩
  go_wp2_with fail
  go_ret2
  exact ⟨s.data.toList, by rw [HN.out, H1.out]; rfl, fun t ht => (by rw [HN.out, H1.out] at ht; cases ht), below_trans hb1 hb2⟩
 | true =>
  have H1 : Hid ((iv == s.data.toList) = true) := hZ9 (by rw [HTL.out]; exact h1)
  generalize Lib.trimPrefix s.data.toList [45] = tp at *
  by_cases h2 : tp.length <= 18
  · have H2 := hZ9 (decide_eq_true h2)
    have hd2 : decide ((tp.length : Int) <= 18) = true := decide_eq_true (by omega)
    go_enter Tryz.func98, Tryz.ntmps98
    go_wp2_with fail
    refine (hpi _).mono ?_; rintro e w1 ⟨rfl, hb1⟩
    go_wp2_with fail
    refine (hfm _ (hE.below hb1)).mono ?_; rintro e w2 ⟨rfl, hb2⟩
    go_wp2_with fail
    refine (htp _).mono ?_; rintro e w3 ⟨rfl, rfl⟩
    go_wp2_with fail
    go_ret2
    exact ⟨s.data.toList, by rw [HN.out, H1.out, H2.out]; rfl, fun t ht => (by rw [HN.out, H1.out, H2.out] at ht; exact Option.some.inj ht), below_trans hb1 hb2⟩
  · have H2 := hZ9 (decide_eq_false h2)
    have hd2 : decide ((tp.length : Int) <= 18) = false := decide_eq_false (by omega)
    go_enter Tryz.func98, Tryz.ntmps98
    go_wp2_with fail
    refine (hpi _).mono ?_; rintro e w1 ⟨rfl, hb1⟩
    go_wp2_with fail
    refine (hfm _ (hE.below hb1)).mono ?_; rintro e w2 ⟨rfl, hb2⟩
    go_wp2_with fail
    refine (htp _).mono ?_; rintro e w3 ⟨rfl, rfl⟩
    go_wp2_with fail
    go_ret2
    exact ⟨s.data.toList, by rw [HN.out, H1.out, H2.out]; rfl, fun t ht => (by rw [HN.out, H1.out, H2.out] at ht; cases ht), below_trans hb1 hb2⟩
theorem normal_inner (k : Nat) (h1 : 1 <= k) (h4 : k <= 4) (s : ByteArray) (hs : s.size <= 1000000) (w : World) (hE : Env w) : Calls Tryz.prog 98 #[.int .i64 (k : Int), .string s] w (NormInner (k : Int) s.data.toList w) := by
 have hk : k = 1 \/ k = 2 \/ k = 3 \/ k = 4 := by omega
 rcases hk with rfl | rfl | rfl | rfl
 · exact normal1_c s hs w hE
 · exact normal2_c s w
 · by_cases h : ∃ v, Lib.parseIntB 64 s.data.toList = .ok v
   · obtain ⟨v, hv⟩ := h; exact normal3_ok s hs v hv w hE
   · exact normal3_no s hs (fun v hv => h ⟨v, hv⟩) w hE
 · exact normal4_c s hs w hE
def NormRet (name l : List UInt8) (w : World) (e : Ending) (w' : World) : Prop := e = .returned (.tuple #[.string ⟨(RuS.normal name l).1.toArray⟩, .int .i64 (RuS.normal name l).2]) /\ Below w.heap.size w w'
theorem NormRet.mk' {name l : List UInt8} {w w' : World} {r : List UInt8 × Int} (h : RuS.normal name l = r) (hb : Below w.heap.size w w') : NormRet name l w (.returned (.tuple #[.string ⟨r.1.toArray⟩, .int .i64 r.2])) w' := by
 unfold NormRet; rw [h]; exact ⟨rfl, hb⟩
theorem rulenormal_c (nm s : ByteArray) (hn : nm.size <= 9223372036854775807) (hs : s.size <= 9223372036854775807) (w : World) (hE : Env w) :
  Calls Tryz.prog 76 #[.string nm, .string s] w (NormRet nm.data.toList s.data.toList w) := by
 have hty := fun w => type_c nm hn w
 unfold TypeRet at hty
 have hall := RuS.typeM_all (RuS.lower nm.data.toList)
 have HN : Hid (RuS.normal nm.data.toList s.data.toList = RuS.normalR (RuS.typeOf nm.data.toList).2 s.data.toList) := hZ9 rfl
 have hall' : RuS.typeOf nm.data.toList = ([], 0) \/ (1 <= (RuS.typeOf nm.data.toList).2 /\ (RuS.typeOf nm.data.toList).2 <= 5 /\ 1 <= (RuS.typeOf nm.data.toList).1.length /\ (RuS.typeOf nm.data.toList).1.length <= 17) := hall
 clear hall
 generalize RuS.typeOf nm.data.toList = r at *
 obtain ⟨t, sy⟩ := r
 simp only at hty HN hall'
 have hsl := Lib.size_eq s
 by_cases h0 : sy = 0
 · subst h0
   go_enter Tryz.func76, Tryz.ntmps76
   go_wp2_with fail
   refine (hty _).mono ?_; rintro e w1 ⟨rfl, hb1⟩
   go_wp2_with fail
   go_ret2
   exact NormRet.mk' (r := ([], 5)) (by rw [HN.out]; rfl) hb1
 by_cases h5 : sy = 5
 · subst h5
   go_enter Tryz.func76, Tryz.ntmps76
   go_wp2_with fail
   refine (hty _).mono ?_; rintro e w1 ⟨rfl, hb1⟩
   go_wp2_with fail
   go_ret2
   exact NormRet.mk' (r := ([], 1)) (by rw [HN.out]; rfl) hb1
 have hb15 : 1 <= sy /\ sy <= 4 := by
  rcases hall' with h | h
  · injection h with _ h; exact absurd h h0
  · omega
 have g0 : (sy == 0) = false := by simpa using h0
 have g5 : (sy == 5) = false := by simpa using h5
 have H0 := hZ9 h0
 have H5 := hZ9 h5
 clear h0 h5 hall'
 by_cases he : s.data.toList.length < 1
 · have hse : s.toList.isEmpty = true := by rw [Lib.toList_data]; exact List.isEmpty_iff.2 (List.eq_nil_of_length_eq_zero (by omega))
   have HE := hZ9 he
   clear he
   go_enter Tryz.func76, Tryz.ntmps76
   go_wp2_with fail
   refine (hty _).mono ?_; rintro e w1 ⟨rfl, hb1⟩
   go_wp2_with fail
   go_ret2
   exact NormRet.mk' (r := ([], 2)) (by rw [HN.out]; unfold RuS.normalR; rw [if_neg H0.out, if_neg H5.out, if_pos (.inl HE.out)]) hb1
 have hse : s.toList.isEmpty = false := by
  rw [Lib.toList_data]
  cases hq : s.data.toList with
  | nil => rw [hq] at he; exact absurd (by decide) he
  | cons a b => rfl
 by_cases hg : 200 < s.data.toList.length
 · have HE := hZ9 hg
   have hg2 : 200 < s.size := by omega
   clear he hg hsl
   go_enter Tryz.func76, Tryz.ntmps76
   go_wp2_with fail
   refine (hty _).mono ?_; rintro e w1 ⟨rfl, hb1⟩
   go_wp2_with fail
   go_ret2
   exact NormRet.mk' (r := ([], 2)) (by rw [HN.out]; unfold RuS.normalR; rw [if_neg H0.out, if_neg H5.out, if_pos (.inr HE.out)]) hb1
 have hg2 : s.size <= 200 := by omega
 have HG : Hid (¬ (s.data.toList.length < 1 \/ 200 < s.data.toList.length)) := hZ9 (by omega)
 clear he hg hsl
 obtain ⟨k, rfl⟩ : ∃ k : Nat, sy = (k : Int) := ⟨sy.toNat, by omega⟩
 have hin := fun w hE => normal_inner k (by omega) (by omega) s (by omega) w hE
 unfold NormInner at hin
 have hgd : decide ((200 : Int) < (s.size : Int)) = false := decide_eq_false (by omega)
 cases hv : RuS.normV (k : Int) s.data.toList with
 | none =>
  rw [hv] at hin
  simp only [Option.isSome_none] at hin
  have HV := hZ9 hv
  clear hv
  go_enter Tryz.func76, Tryz.ntmps76
  go_wp2_with fail
  refine (hty _).mono ?_; rintro e w1 ⟨rfl, hb1⟩
  go_wp2_with fail
  refine (hin _ (hE.below hb1)).mono ?_; rintro e w2 ⟨t2, rfl, _, hb2⟩
  go_wp2_with fail
  go_ret2
  exact NormRet.mk' (r := ([], 2)) (by rw [HN.out]; unfold RuS.normalR; rw [if_neg H0.out, if_neg H5.out, if_neg HG.out, HV.out]) (below_trans hb1 hb2)
 | some x =>
  rw [hv] at hin
  simp only [Option.isSome_some] at hin
  have HV := hZ9 hv
  clear hv
  go_enter Tryz.func76, Tryz.ntmps76
  go_wp2_with fail
  refine (hty _).mono ?_; rintro e w1 ⟨rfl, hb1⟩
  go_wp2_with fail
  refine (hin _ (hE.below hb1)).mono ?_; rintro e w2 ⟨t2, rfl, ht2, hb2⟩
  have ht3 := ht2 x rfl
  clear ht2
  subst ht3
  go_wp2_with fail
  go_ret2
  exact NormRet.mk' (r := (_, 0)) (by rw [HN.out]; unfold RuS.normalR; rw [if_neg H0.out, if_neg H5.out, if_neg HG.out, HV.out]) (below_trans hb1 hb2)
end
section
open Go.RowKit
theorem StrsIn.laid (w : World) (xs : List (List UInt8)) (n : Nat) (hn : xs.length = n) : StrsIn (w.alloc (.cells (xs.map strV).toArray 9)) (.slice (some ⟨w.heap.size, 0, none⟩) n n) xs := by
 subst hn
 refine ⟨_, _, rfl, Nat.le_refl _, .inr ⟨w.heap.size, 0, rfl, by simp, fun j y hj => ?_⟩⟩
 have h := (Whole.made w 9 (xs.map strV).toArray).cell j
 rw [Nat.zero_add, h]
 simp [hj]
end
end Go.Proofs.YtjmfknfponjgkaaGreatDoor
