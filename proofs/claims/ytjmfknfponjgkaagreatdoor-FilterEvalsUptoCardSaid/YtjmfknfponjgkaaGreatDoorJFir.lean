/- The walk of the program's Parse of a filter's text. Conditions: as stated. -/
import Derived.Test.YtjmfknfponjgkaaGreatDoorJFip
import Derived.Test.YtjmfknfponjgkaaGreatDoorJFif
import Derived.Test.YtjmfknfponjgkaaGreatDoorJFiu
set_option maxRecDepth 100000
set_option maxHeartbeats 8000000
namespace Go.Proofs.YtjmfknfponjgkaaGreatDoor
section
namespace FiS
theorem unesc_len : ∀ (n : Nat) (l v : List UInt8), l.length <= n -> unescV l = some v -> v.length <= l.length
 | _, [], v, _, h => by
  have : v = [] := by simpa [unescV] using h.symm
  subst this; simp
 | 0, c :: r, v, hn, _ => by simp at hn
 | n + 1, c :: r, v, hn, h => by
  by_cases hc : c = 92
  · subst hc
    match r, hn, h with
    | [], _, h => cases h
    | [a], _, h => cases h
    | a :: b :: q, hn, h =>
     rw [unescV, if_pos rfl] at h
     cases ha : RdS.hexOf a with
     | none => rw [ha] at h; cases h
     | some x =>
      cases hb : RdS.hexOf b with
      | none => rw [ha, hb] at h; cases h
      | some y =>
       rw [ha, hb] at h
       simp only [Option.map_eq_some_iff] at h
       obtain ⟨u, hu, rfl⟩ := h
       have := unesc_len n q u (by simp only [List.length_cons] at hn; omega) hu
       simp only [List.length_cons]; omega
  · cases hb : bad c with
    | true => rw [unesc_bad hc hb] at h; cases h
    | false =>
     rw [unesc_plain hc hb, Option.map_eq_some_iff] at h
     obtain ⟨u, hu, rfl⟩ := h
     have := unesc_len n r u (by simp only [List.length_cons] at hn; omega) hu
     simp only [List.length_cons]; omega
theorem unescL_small {N : Nat} : ∀ {ps ds : List (List UInt8)}, unescL ps = some ds -> (∀ p ∈ ps, p.length <= N) -> ∀ d ∈ ds, d.length <= N
 | [], ds, h, _ => by
  have : ds = [] := by simpa [unescL] using h.symm
  subst this; simp
 | p :: r, ds, h, hp => by
  rw [unescL] at h
  cases h1 : unescV p with
  | none => rw [h1] at h; cases h
  | some v =>
   rw [h1] at h
   cases h2 : unescL r with
   | none => rw [h2] at h; cases h
   | some l =>
    rw [h2] at h
    have hds : ds = v :: l := by simpa using h.symm
    subst hds
    intro d hd
    rcases List.mem_cons.1 hd with rfl | hd
    · exact Nat.le_trans (unesc_len _ _ _ (Nat.le_refl _) h1) (hp p (List.mem_cons_self ..))
    · exact unescL_small h2 (fun q hq => hp q (List.mem_cons_of_mem _ hq)) d hd
theorem wd_leaf {N : Nat} {k : Int} {a v f l : List UInt8} {s : List (List UInt8)} (h1 : a.length <= N) (h2 : v.length <= N) (h3 : f.length <= N) (h4 : l.length <= N) (h5 : s.length <= N) (h6 : ∀ t ∈ s, t.length <= N) : wdF N (.mk k a v f l s []) := by
 rw [wdF]
 exact ⟨⟨h1, h2, h3, h4⟩, h5, h6, by simp, by rw [wdL]; trivial⟩
theorem take_le (p : UInt8 -> Bool) (l : List UInt8) : (l.takeWhile p).length <= l.length /\ (l.dropWhile p).length <= l.length := by
 have h := congrArg List.length (List.takeWhile_append_dropWhile (p := p) (l := l))
 rw [List.length_append] at h
 omega
theorem esc_wd {N : Nat} {k : Int} {a q : List UInt8} {x : Fi} (h : (unescV q).map (fun v => Fi.mk k a v [] [] [] []) = some x) (ha : a.length <= N) (hq : q.length <= N) : wdF N x := by
 rw [Option.map_eq_some_iff] at h
 obtain ⟨v, hv, rfl⟩ := h
 exact wd_leaf ha (Nat.le_trans (unesc_len _ _ _ (Nat.le_refl _) hv) hq) (by simp) (by simp) (by simp) (by simp)
theorem leafS_wd {N : Nat} {l : List UInt8} {x : Fi} (hl : l.length <= N) (h : leafS l = some x) : wdF N x := by
 have ht := take_le (fun c => !isSign c) l
 rw [leafD_is] at h
 generalize l.takeWhile (fun c => !isSign c) = a at *
 generalize l.dropWhile (fun c => !isSign c) = d at *
 have hd2 : (d.drop 2).length <= N := by rw [List.length_drop]; omega
 have hd1 : (d.drop 1).length <= d.length - 1 := by rw [List.length_drop]; omega
 unfold leafD at h
 split at h
 · exact esc_wd h (by omega) hd2
 · split at h
   · exact esc_wd h (by omega) hd2
   · split at h
     · exact esc_wd h (by omega) hd2
     · split at h
       · rename_i hp
         have hd0 : 1 <= d.length := by
          cases d with
          | nil => cases hp
          | cons c r => simp
         unfold restS at h
         split at h
         · cases h
           exact wd_leaf (by omega) (by simp) (by simp) (by simp) (by simp) (by simp)
         · rw [Option.map_eq_some_iff] at h
           obtain ⟨ds, hds, rfl⟩ := h
           have hpc := pieces_length 42 (d.drop 1)
           have hps : ∀ p ∈ RuS.pieces 42 (d.drop 1), p.length <= N := fun p hp => Nat.le_trans (pieces_small _ _ p hp) (by omega)
           have hsm := unescL_small hds hps
           have hln := unescL_len hds
           by_cases h2 : 2 <= ds.length
           · rw [piecesF_many h2]
             exact wd_leaf (by omega) (by simp) (hsm _ (List.getElem_mem _)) (hsm _ (List.getElem_mem _)) (by simp; omega) (fun t ht => hsm t (List.mem_of_mem_drop ((List.dropLast_sublist _).subset ht)))
           · match ds, h2, hsm with
             | [], _, _ =>
              show wdF N (.mk 4 a [] [] [] [] [])
              exact wd_leaf (by omega) (by simp) (by simp) (by simp) (by simp) (by simp)
             | [v], _, hsm =>
              show wdF N (.mk 3 a v [] [] [] [])
              exact wd_leaf (by omega) (hsm v (List.mem_cons_self ..)) (by simp) (by simp) (by simp) (by simp)
             | _ :: _ :: _, h2, _ => exact absurd (by simp) h2
       · cases h
theorem readF_wd {N : Nat} : ∀ (F n d : Nat) (s : List UInt8), s.length <= N -> n <= N -> (∀ x r m, readF F n d s = some (x, r, m) -> wdF N x) /\ (∀ q r m, readG F n d s = some (q, r, m) -> wdL N q /\ q.length + m <= n) := by
 intro F
 induction F with
 | zero => intro n d s _ _; exact ⟨fun x r m h => by simp [readF] at h, fun x r m h => by simp [readG] at h⟩
 | succ F ih =>
  intro n d s hs hn
  refine ⟨fun x r m h => ?_, fun q r m h => ?_⟩
  · rw [readF] at h
    split at h
    · cases h
    · split at h
      · cases h
      · rename_i c r' hh
        have hl := headS_len hh
        rw [hl] at hs
        simp only [List.length_cons] at hs
        split at h
        · rw [Option.map_eq_some_iff] at h
          obtain ⟨⟨q1, q2, q3⟩, hq, h2⟩ := h
          simp only [Prod.mk.injEq] at h2
          have := (ih (n - 1) d r' (by omega) (by omega)).2 _ _ _ hq
          rw [<- h2.1, wdF]
          exact ⟨⟨by simp, by simp, by simp, by simp⟩, by simp, by simp, by omega, this.1⟩
        · unfold itemS at h
          split at h
          · rename_i item rest hc
            rw [Option.map_eq_some_iff] at h
            obtain ⟨y, hy, h2⟩ := h
            simp only [Prod.mk.injEq] at h2
            have := cutB_len1 hc
            rw [<- h2.1]
            exact leafS_wd (by simp only [List.length_cons] at this; omega) hy
          · cases h
  · rw [readG] at h
    split at h
    · simp only [Option.some.injEq, Prod.mk.injEq] at h
      rw [<- h.1, <- h.2.2, wdL]
      exact ⟨trivial, by simp⟩
    · split at h
      · rename_i p r' k hp
        rw [Option.map_eq_some_iff] at h
        obtain ⟨⟨q1, q2, q3⟩, hq, h2⟩ := h
        simp only [Prod.mk.injEq] at h2
        have h4 := (ih n (d + 1) s hs hn).1 _ _ _ hp
        have h5 := (readF_less F n (d + 1) s).1 _ _ _ hp
        have h6 := (readF_len F n (d + 1) s).1 _ _ _ hp
        have h7 := (ih k d r' (by omega) (by omega)).2 _ _ _ hq
        rw [<- h2.1, <- h2.2.2, wdL, List.length_cons]
        exact ⟨⟨h4, h7.1⟩, by omega⟩
      · cases h
theorem readS_wd {N n d : Nat} {s : List UInt8} (hs : s.length <= N) (hn : n <= N) {x : Fi} {r : List UInt8} {m : Nat} (h : readS n d s = some (x, r, m)) : wdF N x := (readF_wd _ n d s hs hn).1 _ _ _ h
def parseE (s : List UInt8) : Int := if 16384 < s.length then 4 else if (parseS s).isSome = true then 0 else 2
end FiS
open Go.RowKit
open FiS (Fi)
attribute [local go_sem ↓] Go.wp_at_zero Go.wp_at_succ
theorem flread_all (n : Nat) : ReadC n := by
 induction n using Nat.strongRecOn with
 | _ n ih => exact flread_c n ih
def ParseR (s : List UInt8) (w : World) (e : Ending) (w' : World) : Prop := (∃ v, e = .returned (.tuple #[v, .int .i64 (FiS.parseE s)]) /\ FiForm v /\ ∀ x, s.length <= 16384 -> FiS.parseS s = some x -> FiV 40 (fun g => w.heap.size <= g) w' v x /\ FiS.wdF 16384 x) /\ Below w.heap.size w w'
theorem ParseR.long {s : List UInt8} {w w' : World} {v : Value} (h : 16384 < s.length) (hv : FiForm v) (hb : Below w.heap.size w w') : ParseR s w (.returned (.tuple #[v, .int .i64 4])) w' :=
 ⟨⟨v, by unfold FiS.parseE; rw [if_pos h], hv, fun x hx => absurd h (by omega)⟩, hb⟩
theorem ParseR.no {s : List UInt8} {w w' : World} {v : Value} (h : s.length <= 16384) (hp : FiS.parseS s = none) (hv : FiForm v) (hb : Below w.heap.size w w') : ParseR s w (.returned (.tuple #[v, .int .i64 2])) w' :=
 ⟨⟨v, by unfold FiS.parseE; rw [if_neg (by omega), hp]; rfl, hv, fun x _ hx => by rw [hp] at hx; cases hx⟩, hb⟩
theorem ParseR.yes {s : List UInt8} {w w' : World} {v : Value} {x : Fi} (h : s.length <= 16384) (hp : FiS.parseS s = some x) (hv : FiV 40 (fun g => w.heap.size <= g) w' v x) (hwd : FiS.wdF 16384 x) (hb : Below w.heap.size w w') : ParseR s w (.returned (.tuple #[v, .int .i64 0])) w' := by
 refine ⟨⟨v, by unfold FiS.parseE; rw [if_neg (by omega), hp]; rfl, hv.form, fun y _ hy => ?_⟩, hb⟩
 rw [hp] at hy
 cases hy
 exact ⟨hv, hwd⟩
theorem flParse_c (s : List UInt8) (w : World) (hE : Env w) : Calls Tryz.prog 21 #[.string ⟨s.toArray⟩] w (ParseR s w) := by
 have hg0 := grow1 w (.cells #[.int .i64 0, .string ⟨#[]⟩, .string ⟨#[]⟩, .string ⟨#[]⟩, .string ⟨#[]⟩, .slice none 0 0, .slice none 0 0] 33)
 have hwf := Whole.made w 33 #[.int .i64 0, .string ⟨#[]⟩, .string ⟨#[]⟩, .string ⟨#[]⟩, .string ⟨#[]⟩, .slice none 0 0, .slice none 0 0]
 by_cases hlong : 16384 < s.length
 case pos =>
  have hz : (16384 : Int) < (s.length : Int) := by omega
  go_enter Tryz.func21, Tryz.ntmps21
  go_upto_region 1 with fail
  generalize w.alloc (.cells #[.int .i64 0, .string ⟨#[]⟩, .string ⟨#[]⟩, .string ⟨#[]⟩, .string ⟨#[]⟩, .slice none 0 0, .slice none 0 0] 33) = w1 at *
  obtain ⟨r0, r1, r2, r3, r4, r5, r6⟩ := hwf.seven
  obtain ⟨t0, t1, t2, t3, t4, t5, t6⟩ := hwf.thaws
  obtain ⟨e0, e1, e2, e3, e4, e5, e6⟩ := hwf.sames
  go_wp2_with fail
  (try simp only [Exit.inBlock, Exit.then])
  refine bodyPost_ret (v := .tuple #[.agg #[.int .i64 0, .string ⟨#[]⟩, .string ⟨#[]⟩, .string ⟨#[]⟩, .string ⟨#[]⟩, .slice none 0 0, .slice none 0 0], .int .i64 4]) ?_ rfl (ParseR.long hlong ⟨.mk 0 [] [] [] [] [] [], none, none, 0, 0, 0, 0, rfl⟩ hg0)
  rw [results_cell_tmp rfl]
  go_simp
 have hz : decide ((16384 : Int) < (s.length : Int)) = false := decide_eq_false (by omega)
 have hsl : s.length <= 16384 := by omega
 have hg1 := grow1 (w.alloc (.cells #[.int .i64 0, .string ⟨#[]⟩, .string ⟨#[]⟩, .string ⟨#[]⟩, .string ⟨#[]⟩, .slice none 0 0, .slice none 0 0] 33)) (.cells #[.string ⟨s.toArray⟩, .int .i64 40] 72)
 have hwf2 := hwf.call hg1
 have e1 : (w.alloc (.cells #[.int .i64 0, .string ⟨#[]⟩, .string ⟨#[]⟩, .string ⟨#[]⟩, .string ⟨#[]⟩, .slice none 0 0, .slice none 0 0] 33)).heap.size = w.heap.size + 1 := by simp
 have hwr2 : Whole ((w.alloc (.cells #[.int .i64 0, .string ⟨#[]⟩, .string ⟨#[]⟩, .string ⟨#[]⟩, .string ⟨#[]⟩, .slice none 0 0, .slice none 0 0] 33)).alloc (.cells #[.string ⟨s.toArray⟩, .int .i64 40] 72)) (w.heap.size + 1) 72 #[.string ⟨s.toArray⟩, .int .i64 ((40 : Nat) : Int)] := by
  have := Whole.made (w.alloc (.cells #[.int .i64 0, .string ⟨#[]⟩, .string ⟨#[]⟩, .string ⟨#[]⟩, .string ⟨#[]⟩, .slice none 0 0, .slice none 0 0] 33)) 72 #[.string ⟨s.toArray⟩, .int .i64 40]
  rwa [e1] at this
 have hz2 := hg0.trans (hg1.mono (by rw [e1]; omega))
 have hrd := flread_all 40 1 1 s (w.heap.size + 1) w _ hwr2 hsl (by decide) rfl (by decide) hE (by omega) hz2
 unfold ReadR at hrd
 have hlt2 : w.heap.size + 1 < ((w.alloc (.cells #[.int .i64 0, .string ⟨#[]⟩, .string ⟨#[]⟩, .string ⟨#[]⟩, .string ⟨#[]⟩, .slice none 0 0, .slice none 0 0] 33)).alloc (.cells #[.string ⟨s.toArray⟩, .int .i64 40] 72)).heap.size := hwr2.lt
 have HPA : Hid (FiS.parseS s = match FiS.readS 40 1 s with
  | some (x, [], _) => if FiS.formedS x = true then some x else none
  | _ => none) := hZ9 rfl
 have HWD := hZ9 (fun x r m (h : FiS.readS 40 1 s = some (x, r, m)) => FiS.readS_wd (N := 16384) hsl (by decide) h)
 clear hwf hg0 hg1 e1 hlong
 go_enter Tryz.func21, Tryz.ntmps21
 go_upto_region 4 with fail
 generalize (w.alloc (.cells #[.int .i64 0, .string ⟨#[]⟩, .string ⟨#[]⟩, .string ⟨#[]⟩, .string ⟨#[]⟩, .slice none 0 0, .slice none 0 0] 33)).alloc (.cells #[.string ⟨s.toArray⟩, .int .i64 40] 72) = w2 at *
 cases hrs : FiS.readS 40 1 s with
 | none =>
  rw [hrs] at hrd HPA
  have HN : Hid (FiS.parseS s = none) := HPA
  clear HWD HPA hrs
  go_wp2_with fail
  refine hrd.mono ?_; rintro e w3 ⟨⟨v, rfl, ⟨y, s1, s2, n1, c1, n2, c2, rfl⟩, _⟩, hk3⟩
  have hwf3 := hk3.whole hwf2 (by omega) (by omega)
  have hb3 := hz2.trans (hk3.1.mono (by omega))
  have hwf4 := hwf3.call (grow1 w3 (.cells #[.int .i64 y.kind, .string ⟨y.attr.toArray⟩, .string ⟨y.value.toArray⟩, .string ⟨y.first.toArray⟩, .string ⟨y.last.toArray⟩, .slice s1 n1 c1, .slice s2 n2 c2] 33))
  have hb4 := hb3.trans ((grow1 w3 (.cells #[.int .i64 y.kind, .string ⟨y.attr.toArray⟩, .string ⟨y.value.toArray⟩, .string ⟨y.first.toArray⟩, .string ⟨y.last.toArray⟩, .slice s1 n1 c1, .slice s2 n2 c2] 33)).mono hb3.size)
  clear hrd hwf2 hwr2 hz2 hk3 hwf3 hb3
  go_upto_region 5 with fail
  generalize w3.alloc (.cells #[.int .i64 y.kind, .string ⟨y.attr.toArray⟩, .string ⟨y.value.toArray⟩, .string ⟨y.first.toArray⟩, .string ⟨y.last.toArray⟩, .slice s1 n1 c1, .slice s2 n2 c2] 33) = w4 at *
  obtain ⟨r0, r1, r2, r3, r4, r5, r6⟩ := hwf4.seven
  obtain ⟨t0, t1, t2, t3, t4, t5, t6⟩ := hwf4.thaws
  obtain ⟨e0, e1, e2, e3, e4, e5, e6⟩ := hwf4.sames
  go_wp2_with fail
  (try simp only [Exit.inBlock, Exit.then])
  refine bodyPost_ret (v := .tuple #[.agg #[.int .i64 0, .string ⟨#[]⟩, .string ⟨#[]⟩, .string ⟨#[]⟩, .string ⟨#[]⟩, .slice none 0 0, .slice none 0 0], .int .i64 2]) ?_ rfl (ParseR.no hsl HN.out ⟨.mk 0 [] [] [] [] [] [], none, none, 0, 0, 0, 0, rfl⟩ hb4)
  rw [results_cell_tmp rfl]
  go_simp
 | some xyz =>
  obtain ⟨x, rest, m⟩ := xyz
  have hwd := HWD.out x rest m hrs
  rw [hrs] at hrd HPA
  clear HWD hrs
  go_wp2_with fail
  refine hrd.mono ?_; rintro e w3 ⟨⟨v, rfl, _, hall⟩, hk3⟩
  obtain ⟨hfv, hwr3⟩ := hall x rest m rfl
  have hwf3 := hk3.whole hwf2 (by omega) (by omega)
  have hb3 := hz2.trans (hk3.1.mono (by omega))
  obtain ⟨a5, c5, a6, c6, rfl, hss, hc6, hps⟩ := FiV.partsO hfv
  have hg4 := grow1 w3 (.cells #[.int .i64 x.kind, .string ⟨x.attr.toArray⟩, .string ⟨x.value.toArray⟩, .string ⟨x.first.toArray⟩, .string ⟨x.last.toArray⟩, .slice a5 x.any.length c5, .slice a6 x.parts.length c6] 33)
  have hwf4 := hwf3.call hg4
  have hwr4 := hwr3.call hg4
  have hwx4 := Whole.made w3 33 #[.int .i64 x.kind, .string ⟨x.attr.toArray⟩, .string ⟨x.value.toArray⟩, .string ⟨x.first.toArray⟩, .string ⟨x.last.toArray⟩, .slice a5 x.any.length c5, .slice a6 x.parts.length c6]
  have hfv4 := hfv.call hg4
  have hb4 := hb3.trans (hg4.mono hb3.size)
  have hx3 : w3.heap.size ≠ w.heap.size := by have := hk3.1.size; omega
  clear hrd hwf2 hwr2 hz2 hk3 hwf3 hwr3 hb3 hall hg4 hss hps hfv
  go_upto_region 5 with fail
  generalize w3.alloc (.cells #[.int .i64 x.kind, .string ⟨x.attr.toArray⟩, .string ⟨x.value.toArray⟩, .string ⟨x.first.toArray⟩, .string ⟨x.last.toArray⟩, .slice a5 x.any.length c5, .slice a6 x.parts.length c6] 33) = w4 at *
  generalize w3.heap.size = xb at *
  obtain ⟨x0, x1, x2, x3, x4, x5, x6⟩ := hwx4.seven
  have b0 := hwr4.cell 0
  have b1 := hwr4.cell 1
  have b2 := hwr4.thaw 0
  have b3 := hwr4.thaw 1
  simp only [List.getElem?_toArray, List.getElem?_cons_zero, List.getElem?_cons_succ] at b0 b1
  by_cases hrest : rest = []
  case neg =>
   have HN : Hid (FiS.parseS s = none) := hZ9 (by
    rw [HPA.out]
    cases rest with
    | nil => exact absurd rfl hrest
    | cons b t => rfl)
   have hr1 : (rest != []) = true := by rw [bne_iff_ne]; exact hrest
   have hr2 : rest.isEmpty = false := by
    cases rest with
    | nil => exact absurd rfl hrest
    | cons b t => rfl
   clear HPA hrest
   obtain ⟨r0, r1, r2, r3, r4, r5, r6⟩ := hwf4.seven
   obtain ⟨t0, t1, t2, t3, t4, t5, t6⟩ := hwf4.thaws
   obtain ⟨e0, e1, e2, e3, e4, e5, e6⟩ := hwf4.sames
   go_wp2_with fail
   (try simp only [Exit.inBlock, Exit.then])
   refine bodyPost_ret (v := .tuple #[.agg #[.int .i64 0, .string ⟨#[]⟩, .string ⟨#[]⟩, .string ⟨#[]⟩, .string ⟨#[]⟩, .slice none 0 0, .slice none 0 0], .int .i64 2]) ?_ rfl (ParseR.no hsl HN.out ⟨.mk 0 [] [] [] [] [] [], none, none, 0, 0, 0, 0, rfl⟩ hb4)
   rw [results_cell_tmp rfl]
   go_simp
  subst hrest
  have hfm := flFormed_c 40 x _ w4 hfv4.ins (FiS.wdF_mono (by decide) x hwd)
  unfold BoolR at hfm
  cases hfd : FiS.formedS x with
  | false =>
   have HN : Hid (FiS.parseS s = none) := hZ9 (by rw [HPA.out]; show (if FiS.formedS x = true then some x else none) = none; rw [hfd]; rfl)
   rw [hfd] at hfm
   clear HPA hfd
   go_wp2_with fail
   refine hfm.mono ?_; rintro e w5 ⟨rfl, hb5⟩
   have hwf5 := hwf4.call hb5
   have hb5' := hb4.trans (hb5.mono hb4.size)
   clear hfm x0 x1 x2 x3 x4 x5 x6 b0 b1 b2 b3 hwf4
   obtain ⟨r0, r1, r2, r3, r4, r5, r6⟩ := hwf5.seven
   obtain ⟨t0, t1, t2, t3, t4, t5, t6⟩ := hwf5.thaws
   obtain ⟨e0, e1, e2, e3, e4, e5, e6⟩ := hwf5.sames
   go_wp2_with fail
   (try simp only [Exit.inBlock, Exit.then])
   refine bodyPost_ret (v := .tuple #[.agg #[.int .i64 0, .string ⟨#[]⟩, .string ⟨#[]⟩, .string ⟨#[]⟩, .string ⟨#[]⟩, .slice none 0 0, .slice none 0 0], .int .i64 2]) ?_ rfl (ParseR.no hsl HN.out ⟨.mk 0 [] [] [] [] [] [], none, none, 0, 0, 0, 0, rfl⟩ hb5')
   rw [results_cell_tmp rfl]
   go_simp
  | true =>
   have HY : Hid (FiS.parseS s = some x) := hZ9 (by rw [HPA.out]; show (if FiS.formedS x = true then some x else none) = some x; rw [hfd]; rfl)
   rw [hfd] at hfm
   clear HPA hfd
   go_wp2_with fail
   refine hfm.mono ?_; rintro e w5 ⟨rfl, hb5⟩
   have hwf5 := hwf4.call hb5
   have hwx5 := hwx4.call hb5
   have hfv5 := hfv4.call hb5
   have hb5' := hb4.trans (hb5.mono hb4.size)
   have hFB5 := hwf5.lt
   clear hfm x0 x1 x2 x3 x4 x5 x6 b0 b1 b2 b3 hwf4 hwx4 hfv4
   obtain ⟨x0, x1, x2, x3, x4, x5, x6⟩ := hwx5.seven
   obtain ⟨v0, v1, v2, v3, v4, v5, v6⟩ := hwf5.seven
   obtain ⟨z0, z1, z2, z3, z4, z5, z6⟩ := hwf5.thaws
   have hwf6 := hwf5.put7 (.int .i64 x.kind) (.string ⟨x.attr.toArray⟩) (.string ⟨x.value.toArray⟩) (.string ⟨x.first.toArray⟩) (.string ⟨x.last.toArray⟩) (.slice a5 x.any.length c5) (.slice a6 x.parts.length c6)
   have hb6 := below_sev hb5' (Nat.le_refl _) (.int .i64 x.kind) (.string ⟨x.attr.toArray⟩) (.string ⟨x.value.toArray⟩) (.string ⟨x.first.toArray⟩) (.string ⟨x.last.toArray⟩) (.slice a5 x.any.length c5) (.slice a6 x.parts.length c6)
   have HFV : Hid (FiV 40 (fun g => w.heap.size <= g) (sev w5 w.heap.size (.int .i64 x.kind) (.string ⟨x.attr.toArray⟩) (.string ⟨x.value.toArray⟩) (.string ⟨x.first.toArray⟩) (.string ⟨x.last.toArray⟩) (.slice a5 x.any.length c5) (.slice a6 x.parts.length c6)) (.agg #[.int .i64 x.kind, .string ⟨x.attr.toArray⟩, .string ⟨x.value.toArray⟩, .string ⟨x.first.toArray⟩, .string ⟨x.last.toArray⟩, .slice a5 x.any.length c5, .slice a6 x.parts.length c6]) x) := hZ9 (hfv5.keep (below_sev (Below.refl w.heap.size w5) (Nat.le_refl _) (.int .i64 x.kind) (.string ⟨x.attr.toArray⟩) (.string ⟨x.value.toArray⟩) (.string ⟨x.first.toArray⟩) (.string ⟨x.last.toArray⟩) (.slice a5 x.any.length c5) (.slice a6 x.parts.length c6)).size (fun g hg hok => by
    have hok : w2.heap.size <= g := hok
    unfold sev
    rw [Below.heap_setCell _ _ _ _ (by show g ≠ w.heap.size; omega), Below.heap_setCell _ _ _ _ (by show g ≠ w.heap.size; omega), Below.heap_setCell _ _ _ _ (by show g ≠ w.heap.size; omega), Below.heap_setCell _ _ _ _ (by show g ≠ w.heap.size; omega), Below.heap_setCell _ _ _ _ (by show g ≠ w.heap.size; omega), Below.heap_setCell _ _ _ _ (by show g ≠ w.heap.size; omega), Below.heap_setCell _ _ _ _ (by show g ≠ w.heap.size; omega)]) (fun g _ hok => by
    have hok : w2.heap.size <= g := hok
    show w.heap.size <= g
    omega))
   unfold sev at hwf6 hb6 HFV
   have HW6 := hZ9 hwf6
   have HB6 := hZ9 hb6
   clear hwf6 hb6 hfv5
   go_wp2_with fail
   (try simp only [Exit.inBlock, Exit.then])
   generalize ((((((((((((((w5).setCell ⟨w.heap.size, 0, none⟩ (.int .i64 x.kind))).setCell ⟨w.heap.size, 1, none⟩ (.string ⟨x.attr.toArray⟩))).setCell ⟨w.heap.size, 2, none⟩ (.string ⟨x.value.toArray⟩))).setCell ⟨w.heap.size, 3, none⟩ (.string ⟨x.first.toArray⟩))).setCell ⟨w.heap.size, 4, none⟩ (.string ⟨x.last.toArray⟩))).setCell ⟨w.heap.size, 5, none⟩ (.slice a5 x.any.length c5))).setCell ⟨w.heap.size, 6, none⟩ (.slice a6 x.parts.length c6)) = w6 at *
   have hfv6 := HFV.out
   have hwf6 := HW6.out
   obtain ⟨r0, r1, r2, r3, r4, r5, r6⟩ := hwf6.seven
   refine bodyPost_ret (v := .tuple #[.agg #[.int .i64 x.kind, .string ⟨x.attr.toArray⟩, .string ⟨x.value.toArray⟩, .string ⟨x.first.toArray⟩, .string ⟨x.last.toArray⟩, .slice a5 x.any.length c5, .slice a6 x.parts.length c6], .int .i64 0]) ?_ rfl (ParseR.yes hsl HY.out hfv6 hwd HB6.out)
   rw [results_cell_tmp rfl]
   go_simp
end
section
namespace FiS
def awakeX : Fi := .mk 4 [99, 110] [] [97] [] [] []
def awakeA : List EnS.At := [⟨[99, 110], [[65, 110, 110]]⟩]
theorem awake_text : textS awakeX = [40, 99, 110, 61, 97, 42, 41] := by kernel_rfl
theorem awake_formed : formedS awakeX = true := by kernel_rfl
theorem awake_parse : parseS [40, 99, 110, 61, 97, 42, 41] = some awakeX := by rw [<- awake_text]; exact parse_text awake_formed
theorem awake_eval : evalS awakeA awakeX = 1 := by kernel_rfl
end FiS
open Go.RowKit
open FiS (Fi)
attribute [local go_sem ↓] Go.wp_at_zero Go.wp_at_succ
theorem attr_made (w : World) (ty : List UInt8) (vs : List (List UInt8)) (n : Nat) (hn : vs.length = n) : AttrsIn ((w.alloc (.cells (vs.map strV).toArray 9)).alloc (.cells #[.string ⟨ty.toArray⟩, .slice (some ⟨w.heap.size, 0, none⟩) n n] 39)) (.slice (some ⟨w.heap.size + 1, 0, none⟩) 1 1) [⟨ty, vs⟩] := by
 have hs := (StrsIn.laid w vs n hn).strsP (fun _ => True) (fun _ _ => trivial)
 have hg := grow1 (w.alloc (.cells (vs.map strV).toArray 9)) (.cells #[.string ⟨ty.toArray⟩, .slice (some ⟨w.heap.size, 0, none⟩) n n] 39)
 have hw := Whole.made (w.alloc (.cells (vs.map strV).toArray 9)) 39 #[.string ⟨ty.toArray⟩, .slice (some ⟨w.heap.size, 0, none⟩) n n]
 have e : (w.alloc (.cells (vs.map strV).toArray 9)).heap.size = w.heap.size + 1 := by simp
 rw [e] at hw
 refine ⟨_, _, rfl, Nat.le_refl _, .inr ⟨w.heap.size + 1, 0, rfl, hw.lt, trivial, fun j x hj => ?_⟩⟩
 have hj0 : j = 0 := by
  have := (List.getElem?_eq_some_iff.1 hj).1
  simp at this; exact this
 subst hj0
 simp only [List.getElem?_cons_zero, Option.some.injEq] at hj
 subst hj
 exact ⟨hw.cell 0, _, hw.cell 1, hs.call hg⟩
theorem awake_fit : FitT FiS.awakeA := by
 unfold FiS.awakeA FitT FitA
 refine ⟨⟨by decide, fun y hy => ?_⟩, fun y hy => ?_⟩
 all_goals
  simp only [List.mem_cons, List.not_mem_nil, or_false] at hy
  subst hy
 · exact ⟨by decide, fun v hv => by simp only [List.mem_cons, List.not_mem_nil, or_false] at hv; subst hv; decide⟩
 · decide
theorem flawake_c (w : World) (hE : Env w) : Calls Tryz.prog 7 #[] w (True_ w) := by
 have hpr := flParse_c [40, 99, 110, 61, 97, 42, 41] w hE
 unfold ParseR at hpr
 have hpe : FiS.parseE [40, 99, 110, 61, 97, 42, 41] = 0 := by unfold FiS.parseE; rw [if_neg (by decide), FiS.awake_parse]; rfl
 rw [hpe] at hpr
 have HEN := hZ9 (fun W (hb : Below w.heap.size w W) => hE.below hb)
 clear hE hpe
 go_enter Tryz.func7, Tryz.ntmps7
 go_wp2_with fail
 refine hpr.mono ?_; rintro e w1 ⟨⟨v, rfl, _, hall⟩, hb1⟩
 obtain ⟨hfv, hwd⟩ := hall FiS.awakeX (by decide) FiS.awake_parse
 obtain ⟨a5, c5, a6, c6, rfl, hss, hc6, hps⟩ := FiV.partsO hfv
 have hfv : FiV 40 (fun g => w.heap.size <= g) w1 (.agg #[.int .i64 4, .string ⟨#[99, 110]⟩, .string ⟨#[]⟩, .string ⟨#[97]⟩, .string ⟨#[]⟩, .slice a5 0 c5, .slice a6 0 c6]) FiS.awakeX := hfv
 simp only [show FiS.awakeX.kind = 4 from rfl, show FiS.awakeX.attr = [99, 110] from rfl, show FiS.awakeX.value = [] from rfl, show FiS.awakeX.first = [97] from rfl, show FiS.awakeX.last = [] from rfl, show FiS.awakeX.any.length = 0 from rfl, show FiS.awakeX.parts.length = 0 from rfl]
 have hg2 := grow1 w1 (.cells #[.int .i64 4, .string ⟨#[99, 110]⟩, .string ⟨#[]⟩, .string ⟨#[97]⟩, .string ⟨#[]⟩, .slice a5 0 c5, .slice a6 0 c6] 33)
 have e2 : (w1.alloc (.cells #[.int .i64 4, .string ⟨#[99, 110]⟩, .string ⟨#[]⟩, .string ⟨#[97]⟩, .string ⟨#[]⟩, .slice a5 0 c5, .slice a6 0 c6] 33)).heap.size = w1.heap.size + 1 := by simp
 have hat := attr_made (w1.alloc (.cells #[.int .i64 4, .string ⟨#[99, 110]⟩, .string ⟨#[]⟩, .string ⟨#[97]⟩, .string ⟨#[]⟩, .slice a5 0 c5, .slice a6 0 c6] 33)) [99, 110] [[65, 110, 110]] 1 rfl
 rw [e2] at hat
 have hA : AttrsIn (((w1.alloc (.cells #[.int .i64 4, .string ⟨#[99, 110]⟩, .string ⟨#[]⟩, .string ⟨#[97]⟩, .string ⟨#[]⟩, .slice a5 0 c5, .slice a6 0 c6] 33)).alloc (.cells #[.string ⟨#[65, 110, 110]⟩] 9)).alloc (.cells #[.string ⟨#[99, 110]⟩, .slice (some ⟨w1.heap.size + 1, 0, none⟩) 1 1] 39)) (.slice (some ⟨w1.heap.size + 2, 0, none⟩) 1 1) FiS.awakeA := hat
 have hg3 := grow1 (w1.alloc (.cells #[.int .i64 4, .string ⟨#[99, 110]⟩, .string ⟨#[]⟩, .string ⟨#[97]⟩, .string ⟨#[]⟩, .slice a5 0 c5, .slice a6 0 c6] 33)) (.cells #[.string ⟨#[65, 110, 110]⟩] 9)
 have hg4 := grow1 ((w1.alloc (.cells #[.int .i64 4, .string ⟨#[99, 110]⟩, .string ⟨#[]⟩, .string ⟨#[97]⟩, .string ⟨#[]⟩, .slice a5 0 c5, .slice a6 0 c6] 33)).alloc (.cells #[.string ⟨#[65, 110, 110]⟩] 9)) (.cells #[.string ⟨#[99, 110]⟩, .slice (some ⟨w1.heap.size + 1, 0, none⟩) 1 1] 39)
 have hb14 : Below w1.heap.size w1 (((w1.alloc (.cells #[.int .i64 4, .string ⟨#[99, 110]⟩, .string ⟨#[]⟩, .string ⟨#[97]⟩, .string ⟨#[]⟩, .slice a5 0 c5, .slice a6 0 c6] 33)).alloc (.cells #[.string ⟨#[65, 110, 110]⟩] 9)).alloc (.cells #[.string ⟨#[99, 110]⟩, .slice (some ⟨w1.heap.size + 1, 0, none⟩) 1 1] 39)) := (hg2.trans (hg3.mono (by rw [e2]; omega))).trans (hg4.mono (by simp; omega))
 have hz4 := hb1.trans (hb14.mono hb1.size)
 have hev := flEval_c 40 FiS.awakeX _ _ FiS.awakeA (((w1.alloc (.cells #[.int .i64 4, .string ⟨#[99, 110]⟩, .string ⟨#[]⟩, .string ⟨#[97]⟩, .string ⟨#[]⟩, .slice a5 0 c5, .slice a6 0 c6] 33)).alloc (.cells #[.string ⟨#[65, 110, 110]⟩] 9)).alloc (.cells #[.string ⟨#[99, 110]⟩, .slice (some ⟨w1.heap.size + 1, 0, none⟩) 1 1] 39)) (hfv.ins.call hb14) (FiS.wdF_mono (by decide) _ hwd) hA awake_fit (HEN.out _ hz4)
 unfold IntR at hev
 rw [FiS.awake_eval] at hev
 have hw2 := Whole.made w1 33 #[.int .i64 4, .string ⟨#[99, 110]⟩, .string ⟨#[]⟩, .string ⟨#[97]⟩, .string ⟨#[]⟩, .slice a5 0 c5, .slice a6 0 c6]
 obtain ⟨q0, q1, q2, q3, q4, q5, q6⟩ := hw2.seven
 clear hpr hat hA hg2 hg3 hg4 hb14 hfv hwd hss hps hall e2 hw2
 go_wp2_with fail
 refine hev.mono ?_; rintro e w5 ⟨rfl, hb5⟩
 have hz5 := hz4.trans (hb5.mono hz4.size)
 clear hev q0 q1 q2 q3 q4 q5 q6
 go_wp2_with fail
 go_ret
 exact ⟨by first | rfl | trivial, hz5⟩
end
end Go.Proofs.YtjmfknfponjgkaaGreatDoor
