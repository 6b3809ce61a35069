/- The walk of slices.SortStableFunc at pairs: up to 20 of them are sorted; more of them stay as many. Conditions: as stated. -/
import Derived.Sort.LotA
import Derived.Deep.AppendLies
import Derived.Test.YtjmfknfponjgkaaGreatDoorJSrt
set_option maxRecDepth 1000000
set_option maxHeartbeats 8000000
namespace Go.Proofs.YtjmfknfponjgkaaGreatDoor
section
open Go.Shelf Go.RowKit Go.Lib Go.Sort Go.Proofs
theorem ltOf_cfP (x y : RdS.Pr) : ltOf cfP x y = Op.bytesLess x.1 y.1 := by
 unfold ltOf cfP
 rw [RuS.less_iff]
 have := RuS.compare_range x.1 y.1
 exact decide_eq_decide.2 ⟨fun h => by omega, fun h => by omega⟩
theorem cfP_swo : SWO (ltOf cfP) where
 irrefl x := by rw [ltOf_cfP, RuS.less_iff, RuS.compare_self]; rfl
 trans x y z h1 h2 := by rw [ltOf_cfP] at *; exact RdS.less_trans h1 h2
 ntrans x y z h1 h2 := by rw [ltOf_cfP] at *; exact RdS.le2_trans (a := z) (b := y) (c := x) h2 h1
theorem stable_few (blk off cap : Nat) (d : Array RdS.Pr) (w : World) (hH : HoldsK encP 2 w blk off d) (hblk : blk < w.heap.size) (hsz : d.size < 20) :
  Calls Tryz.prog 188 #[.slice (some ⟨blk, off, none⟩) d.size cap, cmpV] w fun e w' => e = .returned (.tuple #[]) /\ ∃ n os, w' = sortWorldK encP 2 w blk off n (Sort.insertionSort (ltOf cfP) d 0 d.size) os := by
 have hins := inssort_c blk off cap 0 d.size d w hH hblk (Nat.zero_le _) (Nat.le_refl _) (by omega)
 generalize Sort.insertionSort (ltOf cfP) d 0 d.size = res at *
 generalize d.size = sz at *
 unfold cmpV at *
 clear hH
 have hst : Calls Tryz.prog 209 #[.slice (some ⟨blk, off, none⟩) sz cap, .int .i64 sz, .func (.func 189) #[] #[]] w fun e w' => e = .returned (.tuple #[]) /\ ∃ n os, w' = sortWorldK encP 2 w blk off n res os := by
  have h20 : ¬ (20 : Int) <= (sz : Int) := by omega
  have h21 : ¬ (20 : Int) < (sz : Int) := by omega
  go_enter Tryz.func209, Tryz.ntmps209
  go_wp2
  refine wp_loop_rounds 1 ?_
  rw [rounds_succ]
  go_wp2_with (go_at_call 218; refine hins.mono ?_; rintro e w1 ⟨rfl, n, os, rfl⟩)
  generalize hw1 : sortWorldK encP 2 w blk off n res os = w1 at *
  refine wp_loop_rounds 1 ?_
  rw [rounds_succ]
  go_wp2
  go_end0
  exact ⟨rfl, n, os, hw1.symm⟩
 go_enter Tryz.func188, Tryz.ntmps188
 go_wp2_with (go_at_call 209; refine hst.mono ?_; rintro e w1 ⟨rfl, hs⟩)
 go_end0
 exact ⟨rfl, hs⟩
theorem inssort_weak (w0 : World) (blk off cap : Nat) (d : Array RdS.Pr) (hH : HoldsK encP 2 w0 blk off d) (hblk : blk < w0.heap.size) (hsz : d.size < 1000000000) (a b : Nat) (hab : a <= b) (hb : b <= d.size) (w : World) (hw : SW w0 blk off d.size w) :
  Calls Tryz.prog 218 #[.slice (some ⟨blk, off, none⟩) d.size cap, .int .i64 a, .int .i64 b, cmpV] w (Swp w0 blk off d.size) := by
 obtain ⟨m, dk, o, hs, rfl⟩ := hw
 have hHd : HoldsK encP 2 (sortWorldK encP 2 w0 blk off m dk o) blk off dk := holdsK_sortWorldK_c encP 2 w0 blk off d dk m o hH hblk hs
 have h := inssort_c blk off cap a b dk (sortWorldK encP 2 w0 blk off m dk o) hHd (Nat.lt_of_lt_of_le hblk (size_sortWorldK_c encP 2 w0 blk off m dk o)) hab (by omega) (by omega)
 rw [hs] at h
 refine h.mono ?_
 rintro e w' ⟨rfl, n, os, rfl⟩
 have hp := (insertionSort_holds cfP_swo dk a b hab (by omega)).1.1
 refine ⟨rfl, m + n, Sort.insertionSort (ltOf cfP) dk a b, o ++ os, by rw [<- hs]; exact hp, ?_⟩
 exact grow_step_growK encP 2 w0 o os m n blk off dk _ hblk hp
theorem stable_weak (w0 : World) (blk off cap : Nat) (d : Array RdS.Pr) (hH : HoldsK encP 2 w0 blk off d) (hblk : blk < w0.heap.size) (hsz : d.size < 1000000000) (w : World) (hw : SW w0 blk off d.size w) :
  Calls Tryz.prog 209 #[.slice (some ⟨blk, off, none⟩) d.size cap, .int .i64 d.size, cmpV] w (Swp w0 blk off d.size) := by
 have hins := fun a b h1 h2 w hw => inssort_weak w0 blk off cap d hH hblk hsz a b h1 h2 w hw
 have hsym := fun a m b h1 h2 h3 w hw => symmerge_c w0 blk off cap d hH hblk hsz (b - a) a m b (Nat.le_refl _) h1 h2 h3 w hw
 unfold Swp cmpV at *
 have HINS := hZ9 hins
 have HSYM := hZ9 hsym
 have HW := hZ9 hw
 clear hins hsym hH hw
 generalize d.size = n at *
 go_enter Tryz.func209, Tryz.ntmps209
 go_wp2
 go_loopg [7, 8] n (fun g1 va vb wr => ∃ (a b : Nat), va = .int .i64 a /\ vb = .int .i64 b /\ b = a + 20 /\ a <= n /\ n - a <= g1 /\ Hid (SW w0 blk off n wr))
 case atStart => exact ⟨0, 20, rfl, rfl, rfl, Nat.zero_le _, by omega, HW⟩
 case round =>
  obtain ⟨a, b, rfl, rfl, hb, han, hg1, HS⟩ := hrel
  have hab : a <= b := by omega
  have hb2 : b <= a + 20 := by omega
  have hb3 : a < b := by omega
  clear hb
  by_cases hlt : b <= n
  · have hz : (b : Int) <= (n : Int) := by omega
    obtain ⟨b2, hb4⟩ : ∃ b2 : Nat, (b : Int) + 20 = (b2 : Int) := ⟨b + 20, by omega⟩
    have wb2 : IntKind.i64.wrap (b2 : Int) = (b2 : Int) := by rw [IntKind.wrap_i64]; omega
    go_wp2_with (go_at_call 218; refine (HINS.out a b (by omega) (by omega) _ HS.out).mono ?_; rintro e w1 ⟨rfl, hs1⟩)
    go_roundg (n - b)
    case measure => omega
    case rel => exact ⟨b, b2, rfl, rfl, by omega, hlt, Nat.le_refl _, hZ9 hs1⟩
  · have hz : ¬ (b : Int) <= (n : Int) := by omega
    go_wp2_with (go_at_call 218; refine (HINS.out a n (by omega) (by omega) _ HS.out).mono ?_; rintro e w1 ⟨rfl, hs1⟩)
    go_loopg [6, 7, 8, 9] n (fun g1 vs va vb vm wr => ∃ (s : Nat), vs = .int .i64 s /\ 1 <= s /\ s <= 2000000000 /\ n - s <= g1 /\ Hid (SW w0 blk off n wr))
    case atStart => exact ⟨20, rfl, by omega, by omega, by omega, hZ9 hs1⟩
    case round =>
     obtain ⟨s, rfl, hs1, hs2, hg2, HS2⟩ := hrel
     by_cases hlt2 : s < n
     · have hz2 : (s : Int) < (n : Int) := by omega
       obtain ⟨t, ht⟩ : ∃ t : Nat, (2 : Int) * (s : Int) = (t : Int) := ⟨2 * s, by omega⟩
       have ht2 : (s : Int) * 2 = (t : Int) := by omega
       have wt : IntKind.i64.wrap (t : Int) = (t : Int) := by rw [IntKind.wrap_i64]; omega
       go_wp2
       go_loopg [7, 8] n (fun g1 va vb wr => ∃ (a b : Nat), va = .int .i64 a /\ vb = .int .i64 b /\ b <= a + t /\ a + t <= b /\ a <= n /\ n - a <= g1 /\ Hid (SW w0 blk off n wr))
       case atStart => exact ⟨0, t, rfl, rfl, by omega, by omega, Nat.zero_le _, by omega, HS2⟩
       case round =>
        obtain ⟨a, b, rfl, rfl, hb5, hb6, han, hg1, HS⟩ := hrel
        obtain ⟨m, hm⟩ : ∃ m : Nat, (a : Int) + (s : Int) = (m : Int) := ⟨a + s, by omega⟩
        have wm : IntKind.i64.wrap (m : Int) = (m : Int) := by rw [IntKind.wrap_i64]; omega
        by_cases hlt3 : b <= n
        · have hz3 : (b : Int) <= (n : Int) := by omega
          obtain ⟨b2, hb4⟩ : ∃ b2 : Nat, (b : Int) + (t : Int) = (b2 : Int) := ⟨b + t, by omega⟩
          have wb2 : IntKind.i64.wrap (b2 : Int) = (b2 : Int) := by rw [IntKind.wrap_i64]; omega
          go_wp2_with (go_at_call 219; refine (HSYM.out a m b (by omega) (by omega) (by omega) _ HS.out).mono ?_; rintro e w1 ⟨rfl, hs3⟩)
          go_roundg (n - b)
          case measure => omega
          case rel => exact ⟨b, b2, rfl, rfl, by omega, by omega, hlt3, Nat.le_refl _, hZ9 hs3⟩
        · have hz3 : ¬ (b : Int) <= (n : Int) := by omega
          by_cases hlt4 : m < n
          · have hz4 : (m : Int) < (n : Int) := by omega
            go_wp2_with (go_at_call 219; refine (HSYM.out a m n (by omega) (by omega) (by omega) _ HS.out).mono ?_; rintro e w1 ⟨rfl, hs3⟩)
            go_roundg (n - t)
            case measure => omega
            case rel => exact ⟨t, rfl, by omega, by omega, Nat.le_refl _, hZ9 hs3⟩
          · have hz4 : ¬ (m : Int) < (n : Int) := by omega
            go_wp2
            go_roundg (n - t)
            case measure => omega
            case rel => exact ⟨t, rfl, by omega, by omega, Nat.le_refl _, HS⟩
     · have hz2 : ¬ (s : Int) < (n : Int) := by omega
       go_wp2
       go_end0
       exact ⟨rfl, HS2.out⟩
theorem sort_weak (w0 : World) (blk off cap : Nat) (d : Array RdS.Pr) (hH : HoldsK encP 2 w0 blk off d) (hblk : blk < w0.heap.size) (hsz : d.size < 1000000000) :
  Calls Tryz.prog 188 #[.slice (some ⟨blk, off, none⟩) d.size cap, cmpV] w0 (Swp w0 blk off d.size) := by
 have hst := stable_weak w0 blk off cap d hH hblk hsz w0 ⟨0, d, #[], rfl, by unfold sortWorldK; rw [grow_empty]; exact (putRowK_self encP 2 w0 blk off d hH).symm⟩
 unfold Swp cmpV at *
 clear hH
 generalize d.size = n at *
 go_enter Tryz.func188, Tryz.ntmps188
 go_wp2_with (go_at_call 209; refine hst.mono ?_; rintro e w1 ⟨rfl, hs⟩)
 go_end0
 exact ⟨rfl, hs⟩
end
section
open Go.Shelf Go.Lib Go.Sort Go.Proofs
theorem sortWorld_below (B : Nat) (w : World) (g : Nat) (hg : B <= g) (hlt : g < w.heap.size) (m : Nat) (dk : Array RdS.Pr) (os : Array Obj) : Go.RowKit.Below B w (sortWorldK encP 2 w g 0 m dk os) := by
 refine ⟨rfl, rfl, rfl, ?_, fun k hk => ?_⟩
 · unfold sortWorldK
   rw [size_grow, size_putRowK]
   exact Nat.le_add_right _ _
 · unfold sortWorldK
   rw [heap_grow_old _ _ (by rw [size_putRowK]; show k < w.heap.size; omega)]
   show (w.heap.modify g _)[k]? = w.heap[k]?
   rw [Array.getElem?_modify, if_neg (by omega)]
theorem own_holds {w : World} {B g n cap : Nat} {xs : List RdS.Pr} (h : OwnA 190 w B (.slice (some ⟨g, 0, none⟩) n cap) xs) (hn : n = xs.length) : HoldsK encP 2 w g 0 xs.toArray := by
 intro j hj
 rw [size_flatK, List.size_toArray] at hj
 have hfz := World.ownsRow.frozenAt (hn ▸ h) j
 have hj2 : j / 2 < xs.length := by omega
 have hat := avaC_at xs (j / 2) xs[j / 2] (List.getElem?_eq_getElem hj2)
 have hadd : ∀ k, (⟨g, 0, none⟩ : Addr).add k = ⟨g, 0 + k, none⟩ := fun k => by unfold Addr.add; split <;> simp_all
 rw [get_flatK _ _ _ _ (by rw [List.size_toArray]; exact hj)]
 have e : xs.toArray[j / 2]! = xs[j / 2] := by simp [hj2]
 rw [e]
 refine ⟨?_, by rw [Nat.zero_add]; exact hfz⟩
 rcases Nat.mod_two_eq_zero_or_one j with h0 | h1
 · have c := World.ownsRow.cells h (g := g) rfl _ _ hat.1
   rw [hadd, show j / 2 * 2 = j from by omega] at c
   rw [c, h0]; rfl
 · have c := World.ownsRow.cells h (g := g) rfl _ _ hat.2
   rw [hadd, show j / 2 * 2 + 1 = j from by omega] at c
   rw [c, h1]; rfl
theorem holds_avas {w : World} {g n cap : Nat} {d : Array RdS.Pr} (h : HoldsK encP 2 w g 0 d) (hn : n = d.size) (hc : n <= cap) (hg : g < w.heap.size) : AvasIn w (.slice (some ⟨g, 0, none⟩) n cap) d.toList := by
 refine ⟨some ⟨g, 0, none⟩, cap, by rw [hn]; simp, by simp; omega, .inr ⟨g, 0, rfl, hg, fun j p hj => ?_⟩⟩
 have hj2 : j < d.size := by
  have := (List.getElem?_eq_some_iff.1 hj).1
  simpa using this
 have e : d[j]! = p := by
  have := (List.getElem?_eq_some_iff.1 hj).2
  rw [getElem!_pos d j hj2]
  simpa using this
 have c0 := h.cell hj2 (c := 0) (by decide)
 have c1 := h.cell hj2 (c := 1) (by decide)
 rw [e] at c0 c1
 exact ⟨c0.1, c1.1⟩
theorem sorted_list {d d' : Array RdS.Pr} (hp : PermIn 0 d.size d d') (hs : SortedIn (ltOf cfP) 0 d.size d') : d'.toList.Perm d.toList /\ d'.toList.Pairwise RdS.le2 := by
 have hsz := hp.1
 refine ⟨?_, ?_⟩
 · have h := hp.2.2
   rw [Array.extract_size, <- hsz, Array.extract_size] at h
   exact h
 · rw [List.pairwise_iff_getElem]
   intro i j hi hj hij
   have h := hs i j (Nat.zero_le _) hij (by simpa [hsz] using hj)
   rw [ltOf_cfP] at h
   simp only [Array.length_toList] at hi hj
   rw [getElem!_pos d' i hi, getElem!_pos d' j hj] at h
   simpa [RdS.le2] using h
def Tag (T : TypeId) (w : World) (v : Value) : Prop := ∀ g, v.ownBlock = some g -> ∃ cs fz, w.heap[g]? = some (.cells cs T fz)
theorem Tag.call {T : TypeId} {w w' : World} {v : Value} (h : Tag T w v) (hb : Go.RowKit.Below w.heap.size w w') : Tag T w' v := fun g hg => by
 obtain ⟨cs, fz, e⟩ := h g hg
 exact ⟨cs, fz, (hb.block g (Array.getElem?_eq_some_iff.1 e).1).trans e⟩
theorem Tag.nil (T : TypeId) (w : World) (n c : Nat) : Tag T w (.slice none n c) := fun g h => by cases h
theorem Tag.own {T : TypeId} {w : World} {B : Nat} {a : Option Addr} {n c : Nat} {xs : List RdS.Pr} (h : OwnA T w B (.slice a n c) xs) (m : Nat) : Tag T w (.slice a m c) := fun g hg => by
 rcases h.2 with ⟨e, _⟩ | ⟨g', cap, cur, e, _, hh, _⟩
 · cases e; cases hg
 · cases e; cases hg; exact ⟨_, _, hh⟩
theorem sortWorld_tag {w : World} {g : Nat} {cr : Array Value} {T : TypeId} {fz : Nat × Nat} (h : w.heap[g]? = some (.cells cr T fz)) (m : Nat) (dk : Array RdS.Pr) (os : Array Obj) : ∃ cs, (sortWorldK encP 2 w g 0 m dk os).heap[g]? = some (.cells cs T fz) := by
 have hlt := (Array.getElem?_eq_some_iff.1 h).1
 unfold sortWorldK
 rw [heap_grow_old _ _ (by rw [size_putRowK]; exact hlt)]
 show ∃ cs, (w.heap.modify g _)[g]? = _
 rw [Array.getElem?_modify, if_pos rfl, h]
 exact ⟨_, rfl⟩
def SortRet (B : Nat) (v : Value) (xs : List RdS.Pr) (w : World) (e : Ending) (w' : World) : Prop :=
 e = .returned (.tuple #[]) /\ Go.RowKit.Below B w w' /\ ∃ ys : List RdS.Pr, ys.length = xs.length /\ AvasIn w' v ys /\ (xs.length < 20 -> ys.Perm xs /\ ys.Pairwise RdS.le2) /\ Tag 190 w' v
theorem sort_c (B : Nat) (v : Value) (xs : List RdS.Pr) (w : World) (h : OwnA 190 w B v xs) (h0 : xs ≠ []) (hl : xs.length <= 1000000) :
  Calls Tryz.prog 188 #[v, .func (.func 189) #[] #[]] w (SortRet B v xs w) := by
 have hpos : 0 < xs.length := List.length_pos_iff.2 h0
 obtain ⟨g, cap, rfl, hg, hlt⟩ := World.ownsRow.form h hpos
 have hcap : xs.length <= cap /\ ∃ cr, w.heap[g]? = some (.cells cr 190 (0, 0)) := by
  rcases h.2 with ⟨e, _⟩ | ⟨g', cap', cr, e, _, hh, hn, _⟩
  · cases e
  · cases e; exact ⟨hn, cr, hh⟩
 obtain ⟨hcap, cr, htag⟩ := hcap
 have hTag : ∀ m dk os, Tag 190 (sortWorldK encP 2 w g 0 m dk os) (.slice (some ⟨g, 0, none⟩) xs.length cap) := fun m dk os g' hg' => by
  cases hg'
  obtain ⟨cs, e⟩ := sortWorld_tag htag m dk os
  exact ⟨cs, _, e⟩
 have hH := own_holds h rfl
 have hsz : xs.toArray.size = xs.length := List.size_toArray ..
 by_cases h20 : xs.length < 20
 · have hc := stable_few g 0 cap xs.toArray w hH hlt (by omega)
   have hpi := insertionSort_holds cfP_swo xs.toArray 0 xs.toArray.size (Nat.zero_le _) (Nat.le_refl _)
   have hp := sorted_list hpi.1 hpi.2
   have hs2 := hpi.1.1
   generalize Sort.insertionSort (ltOf cfP) xs.toArray 0 xs.toArray.size = d' at *
   rw [hsz] at hc
   refine hc.mono ?_
   rintro e w' ⟨rfl, n, os, rfl⟩
   have hH2 := holdsK_sortWorldK_c encP 2 w g 0 xs.toArray d' n os hH hlt hs2
   refine ⟨rfl, sortWorld_below B w g hg hlt n d' os, d'.toList, by simp [hs2], holds_avas hH2 (by omega) hcap (Nat.lt_of_lt_of_le hlt (size_sortWorldK_c encP 2 w g 0 n d' os)), fun _ => ?_, hTag _ _ _⟩
   simpa using hp
 · have hc := sort_weak w g 0 cap xs.toArray hH hlt (by omega)
   rw [hsz] at hc
   refine hc.mono ?_
   rintro e w' ⟨rfl, n, d', os, hs2, rfl⟩
   have hH2 := holdsK_sortWorldK_c encP 2 w g 0 xs.toArray d' n os hH hlt (by omega)
   exact ⟨rfl, sortWorld_below B w g hg hlt n d' os, d'.toList, by simp [hs2], holds_avas hH2 (by omega) hcap (Nat.lt_of_lt_of_le hlt (size_sortWorldK_c encP 2 w g 0 n d' os)), (fun h => absurd h h20), hTag _ _ _⟩
end
section
open Go.RowKit
def AvssIn (w : World) (v : Value) (ls : List (List RdS.Pr)) : Prop :=
 ∃ (a : Option Addr) (c : Nat) (us : List Value), v = .slice a ls.length c /\ ls.length <= c /\ us.length = ls.length /\ (∀ (i : Nat) (u : Value) (l : List RdS.Pr), us[i]? = some u -> ls[i]? = some l -> AvasIn w u l) /\
  (ls = [] \/ ∃ g o, a = some ⟨g, o, none⟩ /\ g < w.heap.size /\ ∀ (i : Nat) (u : Value), us[i]? = some u -> w.cell? ⟨g, o + i, none⟩ = some u)
theorem AvssIn.call {w w' : World} {v : Value} {ls : List (List RdS.Pr)} (h : AvssIn w v ls) {B : Nat} (hb : Below B w w') (hB : w.heap.size <= B) : AvssIn w' v ls := by
 obtain ⟨a, c, us, rfl, hc, hu, hel, h⟩ := h
 refine ⟨a, c, us, rfl, hc, hu, fun i u l h1 h2 => (hel i u l h1 h2).call hb hB, ?_⟩
 rcases h with h | ⟨g, o, rfl, hg, h⟩
 · exact .inl h
 · exact .inr ⟨g, o, rfl, Nat.lt_of_lt_of_le hg hb.size, fun i u hi => (hb.cell (p := ⟨g, o + i, none⟩) (Nat.lt_of_lt_of_le hg hB)).trans (h i u hi)⟩
theorem AvssIn.empty (w : World) : AvssIn w (.slice none 0 0) [] := ⟨none, 0, [], rfl, Nat.le_refl _, rfl, fun i u l h => (by simp at h), .inl rfl⟩
theorem AvssIn.at {w : World} {v : Value} {ls : List (List RdS.Pr)} (h : AvssIn w v ls) : ∃ a c, v = .slice a ls.length c /\ ls.length <= c /\ (ls = [] \/ ∃ g o, a = some ⟨g, o, none⟩ /\ g < w.heap.size /\ ∀ (i : Nat) (l : List RdS.Pr), ls[i]? = some l -> ∃ u, w.cell? ⟨g, o + i, none⟩ = some u /\ AvasIn w u l) := by
 obtain ⟨a, c, us, rfl, hc, hu, hel, h⟩ := h
 refine ⟨a, c, rfl, hc, ?_⟩
 rcases h with h | ⟨g, o, rfl, hg, h⟩
 · exact .inl h
 · refine .inr ⟨g, o, rfl, hg, fun i l hl => ?_⟩
   have hlt : i < us.length := by rw [hu]; exact (List.getElem?_eq_some_iff.1 hl).1
   exact ⟨us[i], h i _ (List.getElem?_eq_getElem hlt), hel i _ l (List.getElem?_eq_getElem hlt) hl⟩
def OwnSS (T T2 : TypeId) (w : World) (B : Nat) (v : Value) (ls : List (List RdS.Pr)) : Prop :=
 ∃ us : List Value, w.ownsRow B T 1 v ls.length us /\ us.length = ls.length /\ ∀ (i : Nat) (u : Value) (l : List RdS.Pr), us[i]? = some u -> ls[i]? = some l -> AvasIn w u l /\ Tag T2 w u
theorem OwnSS.empty (T T2 : TypeId) (w : World) (B : Nat) : OwnSS T T2 w B (.slice none 0 0) [] := ⟨[], World.ownsRow_nil w B _ 1, rfl, fun i u l h => (by simp at h)⟩
theorem OwnSS.form {T T2 : TypeId} {w : World} {B : Nat} {v : Value} {ls : List (List RdS.Pr)} (h : OwnSS T T2 w B v ls) : ∃ a c, v = .slice a ls.length c := by
 obtain ⟨us, h, _⟩ := h
 rcases h.2 with ⟨rfl, hn⟩ | ⟨g, cap, cur, rfl, _⟩
 · exact ⟨_, _, by rw [hn]⟩
 · exact ⟨_, _, rfl⟩
theorem OwnSS.call {T T2 : TypeId} {w w' : World} {B : Nat} {v : Value} {ls : List (List RdS.Pr)} (h : OwnSS T T2 w B v ls) (hb : Below w.heap.size w w') : OwnSS T T2 w' B v ls := by
 obtain ⟨us, h1, h2, h3⟩ := h
 exact ⟨us, World.ownsRow.kept h1 (grown_none hb) (by cases v.ownBlock <;> simp), h2, fun i u l a b => ⟨(h3 i u l a b).1.call hb (Nat.le_refl _), (h3 i u l a b).2.call hb⟩⟩
theorem OwnSS.avss {T T2 : TypeId} {w : World} {B : Nat} {v : Value} {ls : List (List RdS.Pr)} (h : OwnSS T T2 w B v ls) : AvssIn w v ls := by
 obtain ⟨us, h1, h2, h3⟩ := h
 rcases h1.2 with ⟨rfl, hn⟩ | ⟨g, cap, cur, rfl, hg, hh, hn, hm, hsz, htk⟩
 · refine ⟨none, 0, us, by rw [hn], by omega, h2, fun i u l a b => (h3 i u l a b).1, .inl (List.eq_nil_of_length_eq_zero hn)⟩
 · refine ⟨some ⟨g, 0, none⟩, cap, us, rfl, hn, h2, fun i u l a b => (h3 i u l a b).1, .inr ⟨g, 0, rfl, (Array.getElem?_eq_some_iff.1 hh).1, fun i u hi => ?_⟩⟩
   have := World.ownsRow.cells h1 (g := g) rfl i u hi
   have hadd : (⟨g, 0, none⟩ : Addr).add i = ⟨g, 0 + i, none⟩ := by unfold Addr.add; split <;> simp_all
   rwa [hadd] at this
theorem AvasIn.setHdr {w : World} {v : Value} {xs : List RdS.Pr} (h : AvasIn w v xs) {b : Nat} {T : TypeId} {a0 : Option Addr} {n0 c0 : Nat} (hw : Whole w b T #[.slice a0 n0 c0]) (u : Value) : AvasIn (w.setCell ⟨b, 0, none⟩ u) v xs := by
 obtain ⟨a, c, rfl, hc, h⟩ := h
 refine ⟨a, c, rfl, hc, ?_⟩
 rcases h with h | ⟨g, o, rfl, hg, h⟩
 · exact .inl h
 · cases xs with
   | nil => exact .inl rfl
   | cons p xs =>
    have hne : g ≠ b := by
     intro e
     subst e
     have h1 := (h 0 p rfl).1
     rw [hw.cell] at h1
     cases o with
     | zero => simp [strV] at h1
     | succ o => simp at h1
    refine .inr ⟨g, o, rfl, by simpa [World.setCell] using hg, fun j q hj => ?_⟩
    have hblk := Below.heap_setCell w ⟨b, 0, none⟩ u g hne
    exact ⟨(World.cell?_of_block (a := ⟨g, o + j * 2, none⟩) hblk).trans (h j q hj).1, (World.cell?_of_block (a := ⟨g, o + j * 2 + 1, none⟩) hblk).trans (h j q hj).2⟩
theorem Tag.setCell {T : TypeId} {w : World} {v : Value} (h : Tag T w v) (a : Addr) (u : Value) : Tag T (w.setCell a u) v := fun g hg => by
 obtain ⟨cs, fz, e⟩ := h g hg
 by_cases hb : g = a.block
 · subst hb
   show ∃ cs fz, (w.heap.modify a.block _)[a.block]? = _
   rw [Array.getElem?_modify, if_pos rfl, e]
   exact ⟨_, _, rfl⟩
 · exact ⟨cs, fz, (Below.heap_setCell w a u g hb).trans e⟩
theorem OwnSS.setHdr {Ts T2 : TypeId} {w : World} {B : Nat} {v : Value} {ls : List (List RdS.Pr)} (h : OwnSS Ts T2 w B v ls) {b : Nat} {T : TypeId} {a0 : Option Addr} {n0 c0 : Nat} (hw : Whole w b T #[.slice a0 n0 c0]) (hb : b < B) (u : Value) : OwnSS Ts T2 (w.setCell ⟨b, 0, none⟩ u) B v ls := by
 obtain ⟨us, h1, h2, h3⟩ := h
 exact ⟨us, ownsRow_setCell_below h1 (a := ⟨b, 0, none⟩) hb u, h2, fun i x l a c => ⟨(h3 i x l a c).1.setHdr hw u, (h3 i x l a c).2.setCell _ u⟩⟩
theorem AvasIn.grownTag {w w' : World} {u : Value} {l : List RdS.Pr} (h : AvasIn w u l) {T2 : TypeId} (ht : Tag T2 w u) {row : Option Nat} (hg : w.grownBy w' row) {T : TypeId} (hr : ∀ k, row = some k -> ∃ cs fz, w.heap[k]? = some (.cells cs T fz)) (hTT : T ≠ T2) : AvasIn w' u l /\ Tag T2 w' u := by
 have hblk : ∀ g, u.ownBlock = some g -> w'.heap[g]? = w.heap[g]? := fun g hu => by
  obtain ⟨cs, fz, e⟩ := ht g hu
  refine hg.block g (Array.getElem?_eq_some_iff.1 e).1 (fun hc => ?_)
  obtain ⟨cs2, fz2, e2⟩ := hr g hc.symm
  rw [e] at e2
  cases e2
  exact hTT rfl
 refine ⟨?_, fun g hu => by
  obtain ⟨cs, fz, e⟩ := ht g hu
  exact ⟨cs, fz, (hblk g hu).trans e⟩⟩
 obtain ⟨a, c, rfl, hc, h⟩ := h
 refine ⟨a, c, rfl, hc, ?_⟩
 rcases h with h | ⟨g, o, rfl, hg2, h⟩
 · exact .inl h
 · have e := hblk g rfl
   exact .inr ⟨g, o, rfl, Nat.lt_of_lt_of_le hg2 hg.size, fun j q hj => ⟨(World.cell?_of_block (a := ⟨g, o + j * 2, none⟩) e).trans (h j q hj).1, (World.cell?_of_block (a := ⟨g, o + j * 2 + 1, none⟩) e).trans (h j q hj).2⟩⟩
theorem push_avs {w : World} {ops : Array Oper} {rest : List Oper} {o : Oper} {a : Act} {Q : Exit -> Act -> World -> Prop} (T T2 sT : TypeId) (hTT : T ≠ T2) (hsT : Tryz.prog.underlying sT = some (.slice T)) {i0 : TypeInfo}
  (hi : Tryz.prog.info? T = some i0) (hz : i0.zero = some (.slice none 0 0)) (hsz2 : i0.size = 1) (hby : i0.bytes = 24) (hgd : o.guard = none) (s x : Operand)
  (ho : o.op = .call { callee := .builtin .append, args := #[s, x], argTypes := #[sT, sT] })
  (B : Nat) (v : Value) (ls : List (List RdS.Pr)) (hs : a.eval s = v) (hown : OwnSS T T2 w B v ls) (g : Nat) (hx : a.eval x = .slice (some ⟨g, 0, none⟩) 1 1)
  (u0 : Value) (hu0 : u0.oneCell' = true) (l : List RdS.Pr) (hc0 : w.cell? ⟨g, 0, none⟩ = some u0) (hav : AvasIn w u0 l) (htg : Tag T2 w u0) (hn : ls.length <= 1000000000) (hB : B <= w.heap.size)
  (h : ∀ v' w', OwnSS T T2 w' B v' (ls ++ [l]) -> Below B w w' -> w.grownBy w' v.ownBlock -> wpList Tryz.prog ops Q rest (a.put o.dst v') w') : wpList Tryz.prog ops Q (o :: rest) a w := by
 obtain ⟨us, hown, hul, hel⟩ := hown
 have hrow : ∀ k, v.ownBlock = some k -> ∃ cs fz, w.heap[k]? = some (.cells cs T fz) := fun k hk => by
  rcases hown.2 with ⟨e, _⟩ | ⟨g', cap, cur, e, _, hh, _⟩
  · rw [e] at hk; cases hk
  · rw [e] at hk; cases hk; exact ⟨_, _, hh⟩
 refine wpList_append_own w hgd s x _ ho B T i0 (.slice none 0 0) 1 24 hsT hi hz hsz2 hby rfl (by decide) v ls.length us hs hown ⟨g, 0, none⟩ 1 1 [u0] hx rfl
  (fun j u hj => ?_) (fun u hu => ?_) (by unfold maxLen; omega) (by omega) hB (fun v' w' h1 h2 _ => h v' w' ?_ ?_ h2)
 · have hj0 : j = 0 := by
    rcases Nat.eq_zero_or_pos j with h | h
    · exact h
    · rw [List.getElem?_eq_none (by simp; omega)] at hj; cases hj
   subst hj0
   have hadd : (⟨g, 0, none⟩ : Addr).add 0 = ⟨g, 0, none⟩ := by unfold Addr.add; split <;> simp_all
   rw [hadd, hc0]
   simpa using hj
 · rw [List.mem_singleton] at hu; subst hu; exact hu0
 · refine ⟨us ++ [u0], by rw [List.length_append]; exact h1, by simp [hul], fun i u l2 hi2 hl2 => ?_⟩
   by_cases hlt : i < us.length
   · rw [List.getElem?_append_left hlt] at hi2
     rw [List.getElem?_append_left (by omega)] at hl2
     exact (hel i u l2 hi2 hl2).1.grownTag (hel i u l2 hi2 hl2).2 h2 hrow hTT
   · have hi3 : i = us.length := by
      have := (List.getElem?_eq_some_iff.1 hi2).1
      simp at this; omega
     subst hi3
     rw [List.getElem?_append_right (Nat.le_refl _)] at hi2
     rw [hul, List.getElem?_append_right (Nat.le_refl _)] at hl2
     simp at hi2 hl2
     subst hi2; subst hl2
     exact hav.grownTag htg h2 hrow hTT
 · exact (Below.refl B w).grown h2 hB (fun k hk => (World.ownsRow.lt hown k hk).1)
end
end Go.Proofs.YtjmfknfponjgkaaGreatDoor
