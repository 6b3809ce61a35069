/- The walks of the reader of filters: skip and read. Conditions: as stated. -/
import Derived.Test.YtjmfknfponjgkaaGreatDoorJFio
import Derived.Test.YtjmfknfponjgkaaGreatDoorJFih
import Derived.Test.YtjmfknfponjgkaaGreatDoorJFij
set_option maxRecDepth 100000
set_option maxHeartbeats 16000000
namespace Go.Proofs.YtjmfknfponjgkaaGreatDoor
namespace FiS
theorem cutB_len : ∀ {s a b : List UInt8}, cutB s = some (a, b) -> b.length <= s.length
 | [], a, b, h => by cases h
 | c :: r, a, b, h => by
  rw [cutB] at h
  split at h
  · simp only [Option.some.injEq, Prod.mk.injEq] at h
    rw [<- h.2]; simp
  · rw [Option.map_eq_some_iff] at h
    obtain ⟨⟨x, y⟩, h1, h2⟩ := h
    simp only [Prod.mk.injEq] at h2
    have := cutB_len h1
    rw [<- h2.2, List.length_cons]; omega
theorem cutB_len1 : ∀ {s a b : List UInt8}, cutB s = some (a, b) -> a.length <= s.length
 | [], a, b, h => by cases h
 | c :: r, a, b, h => by
  rw [cutB] at h
  split at h
  · simp only [Option.some.injEq, Prod.mk.injEq] at h
    rw [<- h.1]; simp
  · rw [Option.map_eq_some_iff] at h
    obtain ⟨⟨x, y⟩, h1, h2⟩ := h
    simp only [Prod.mk.injEq] at h2
    have := cutB_len1 h1
    rw [<- h2.1, List.length_cons, List.length_cons]; omega
theorem cut_cutB : ∀ (s : List UInt8), Lib.cut s [41] = match cutB s with
  | some (a, b) => (a, b, true)
  | none => (s, [], false)
 | [] => rfl
 | c :: r => by
  have ih := cut_cutB r
  unfold Lib.cut at ih ⊢
  rw [cutB]
  by_cases hc : c = 41
  · subst hc
    rw [if_pos rfl]
    have : Lib.index (41 :: r) [41] = 0 := by unfold Lib.index; rfl
    rw [this]; rfl
  · rw [if_neg hc]
    have hp : ([41] : List UInt8).isPrefixOf (c :: r) = false := by
     show ((41 : UInt8) == c && _) = false
     have : ((41 : UInt8) == c) = false := by simpa using fun h => hc h.symm
     rw [this]; rfl
    have hi : Lib.index (c :: r) [41] = if Lib.index r [41] == -1 then -1 else Lib.index r [41] + 1 := by
     conv => lhs; unfold Lib.index
     rw [hp]; rfl
    rw [hi]
    rcases Lib.index_spec r [41] with ⟨h1, _⟩ | ⟨i, h1, _⟩
    · rw [h1] at ih ⊢
      simp only [show ¬ (0 : Int) <= -1 by decide, if_false] at ih
      cases hb : cutB r with
      | none => rfl
      | some q =>
       rw [hb] at ih
       simp only [Prod.mk.injEq] at ih
       exact absurd ih.2.2 (by simp)
    · rw [h1] at ih ⊢
      have e1 : ((i : Int) == -1) = false := by rw [beq_eq_false_iff_ne]; omega
      rw [e1]
      rw [if_pos (by omega), Int.toNat_natCast] at ih
      simp only [Bool.false_eq_true, if_false]
      rw [if_pos (by omega), show ((i : Int) + 1).toNat = i + 1 by omega]
      cases hb : cutB r with
      | none =>
       rw [hb] at ih
       simp only [Prod.mk.injEq] at ih
       exact absurd ih.2.2 (by simp)
      | some q =>
       obtain ⟨a, b⟩ := q
       rw [hb] at ih
       simp only [Prod.mk.injEq] at ih
       simp only [Option.map_some, List.take_succ_cons, Prod.mk.injEq]
       refine ⟨by rw [ih.1], ?_, trivial⟩
       rw [<- ih.2.1, show i + 1 + ([41] : List UInt8).length = (i + ([41] : List UInt8).length) + 1 by omega, List.drop_succ_cons]
theorem headS_len {s : List UInt8} {c : UInt8} {r : List UInt8} (h : headS s = some (c, r)) : s = 40 :: c :: r := by
 match s, h with
 | [], h => cases h
 | [_], h => cases h
 | b :: c' :: r', h =>
  have h : (if b = 40 then some (c', r') else none) = some (c, r) := h
  by_cases hb : b = 40
  · rw [if_pos hb] at h
    simp only [Option.some.injEq, Prod.mk.injEq] at h
    rw [hb, h.1, h.2]
  · rw [if_neg hb] at h
    cases h
theorem readF_len : ∀ (F n d : Nat) (s : List UInt8), (∀ x r m, readF F n d s = some (x, r, m) -> r.length <= s.length) /\ (∀ x r m, readG F n d s = some (x, r, m) -> r.length <= s.length) := by
 intro F
 induction F with
 | zero => intro n d s; exact ⟨fun x r m h => by simp [readF] at h, fun x r m h => by simp [readG] at h⟩
 | succ F ih =>
  intro n d s
  refine ⟨fun x r m h => ?_, fun x r m h => ?_⟩
  · rw [readF] at h
    split at h
    · cases h
    · split at h
      · cases h
      · rename_i c r' hh
        have hs := headS_len hh
        split at h
        · rw [Option.map_eq_some_iff] at h
          obtain ⟨⟨q1, q2, q3⟩, hq, h2⟩ := h
          simp only [Prod.mk.injEq] at h2
          have := (ih (n - 1) d _).2 _ _ _ hq
          rw [hs, <- h2.2.1, List.length_cons, List.length_cons]; omega
        · unfold itemS at h
          split at h
          · rename_i item rest hc
            rw [Option.map_eq_some_iff] at h
            obtain ⟨q, hq, h2⟩ := h
            simp only [Prod.mk.injEq] at h2
            have := cutB_len hc
            rw [hs, <- h2.2.1, List.length_cons]; omega
          · cases h
  · rw [readG] at h
    split at h
    · simp only [Option.some.injEq, Prod.mk.injEq] at h
      rw [<- h.2.1, List.length_drop]; omega
    · split at h
      · rename_i p q k hp
        rw [Option.map_eq_some_iff] at h
        obtain ⟨⟨q1, q2, q3⟩, hq, h2⟩ := h
        simp only [Prod.mk.injEq] at h2
        have h4 := (ih n (d + 1) s).1 _ _ _ hp
        have h5 := (ih k d q).2 _ _ _ hq
        rw [<- h2.2.1]; omega
      · cases h
theorem readS_len {n d : Nat} {s : List UInt8} {x : Fi} {r : List UInt8} {m : Nat} (h : readS n d s = some (x, r, m)) : r.length <= s.length := (readF_len _ n d s).1 _ _ _ h
theorem opens_fin : ∀ n : Fin 256, Lib.indexByte [38, 124, 33] (UInt8.ofNat n.val) = (opK (UInt8.ofNat n.val)).getD (-1) := by decide +kernel
theorem opens_index (c : UInt8) : Lib.indexByte [38, 124, 33] c = (opK c).getD (-1) := by
 have h := opens_fin ⟨c.toNat, c.toNat_lt⟩
 rwa [show UInt8.ofNat c.toNat = c from UInt8.ofNat_toNat] at h
theorem opK_three {c : UInt8} {k : Int} (h : opK c = some k) : k = 0 \/ k = 1 \/ k = 2 := by
 unfold opK at h
 split at h
 · cases h; exact .inl rfl
 · split at h
   · cases h; exact .inr (.inl rfl)
   · split at h
     · cases h; exact .inr (.inr rfl)
     · cases h
end FiS
open Go.RowKit
open FiS (Fi)
attribute [local go_sem ↓] Go.wp_at_zero Go.wp_at_succ
theorem Kept2.weak {C C' b : Nat} {w w' : World} (h : Kept2 C' b w w') (hC : C <= C') : Kept2 C b w w' := ⟨h.1, fun k hk hne => h.2 k (by omega) hne⟩
theorem Kept2.far {C b : Nat} {w w' : World} (h : Kept2 C b w w') {g : Nat} (hg : C <= g) (hb : b <= g) (i : Nat) (u : Value) : Kept2 C b w (w'.setCell ⟨g, i, none⟩ u) := ⟨h.1.setCell (p := ⟨g, i, none⟩) hb u, fun k hk hne => by
 rw [Below.heap_setCell _ _ _ _ (by show k ≠ g; omega)]; exact h.2 k hk hne⟩
theorem Kept2.grow {C b : Nat} {u v w : World} (h : Kept2 C b u v) (h2 : Below v.heap.size v w) (hb : b <= C) (hC : C <= v.heap.size) : Kept2 C b u w := h.trans (Kept2.of_below (h2.mono hC) hb)
theorem Kept2.grown {C b : Nat} {w w' : World} (h : Kept2 C b w w') (hC : w.heap.size <= C) : w.grownBy w' (some b) := ⟨h.1.os, h.1.tape, h.1.output, h.1.size, fun k hk hne => h.2 k (by omega) (fun e => hne (by rw [e]))⟩
theorem Kept2.whole {C b : Nat} {w w' : World} (h : Kept2 C b w w') {g : Nat} {t : TypeId} {cs : Array Value} (hw : Whole w g t cs) (hg : g < C) (hne : g ≠ b) : Whole w' g t cs := (h.2 g hg hne).trans hw
theorem OwnG.kept {α : Type} {L : RLay α} {T : TypeId} {C C' b : Nat} {w w' : World} {v : Value} {xs : List α} (h : OwnG L T (fun g => C <= g) w C v xs) (hk : Kept2 C' b w w') (hC : w.heap.size <= C') (hb : b < C) : OwnG L T (fun g => C <= g) w' C v xs := by
 have hne : v.ownBlock ≠ some b := fun e => by have := (h.block e).1; omega
 obtain ⟨us, h1, h2, h3⟩ := h
 exact ⟨us, World.ownsRow.kept h1 (hk.grown hC) (.inr hne), h2, fun i u l a c => L.keep (h3 i u l a c) hk.1.size (fun g hg hok => hk.2 g (by omega) (by have := hok.1; omega)) (fun g _ h => h)⟩
def fiG (n : Nat) : RLay Fi := ⟨7, by decide, fun ok w cs x => ∃ ua up, cs = [.int .i64 x.kind, strV x.attr, strV x.value, strV x.first, strV x.last, ua, up] /\ StrsP ok w ua x.any /\ FisP n ok w up x.parts,
 fun h hs hb hk => by obtain ⟨ua, up, e, h1, h2⟩ := h; exact ⟨ua, up, e, StrsP.keep h1 hs hb hk, h2.keep hs hb hk⟩,
 fun h => by obtain ⟨ua, up, rfl, _⟩ := h; rfl,
 fun h => by
  obtain ⟨ua, up, rfl, h1, h2⟩ := h
  obtain ⟨a, c, rfl, _⟩ := SliceP.form h1
  obtain ⟨a', c', rfl, _⟩ := SliceP.form h2
  intro z hz
  simp only [List.mem_cons, List.not_mem_nil, or_false] at hz
  rcases hz with rfl | rfl | rfl | rfl | rfl | rfl | rfl <;> rfl⟩
theorem OwnG.fis {n : Nat} {T : TypeId} {C : Nat} {w : World} {v : Value} {xs : List Fi} (h : OwnG (fiG n) T (fun g => C <= g) w C v xs) : FisP (n + 1) (fun g => C <= g) w v xs := by
 have h := h.read (fun g => C <= g) (fun g hg => hg)
 refine SliceP.imp h (Nat.le_refl _) (fun _ _ h => h) fun g o x _ _ hx => ?_
 obtain ⟨cs, hc, ua, up, rfl, h1, h2⟩ := hx
 exact ⟨ua, up, ⟨hc 0 _ rfl, hc 1 _ rfl, hc 2 _ rfl, hc 3 _ rfl, hc 4 _ rfl, hc 5 _ rfl, hc 6 _ rfl⟩, h1, h2⟩
theorem RowG.oneFi {n : Nat} {rok ok : Nat -> Prop} {w : World} {g : Nat} {T : TypeId} {x : Fi} {ua up : Value} (h : Whole w g T #[.int .i64 x.kind, strV x.attr, strV x.value, strV x.first, strV x.last, ua, up]) (hr : rok g) (h1 : StrsP ok w ua x.any) (h2 : FisP n ok w up x.parts) : RowG (fiG n) rok ok w (.slice (some ⟨g, 0, none⟩) 1 1) [x] := by
 refine ⟨_, _, rfl, Nat.le_refl _, .inr ⟨g, 0, rfl, h.lt, hr, fun j y hj => ?_⟩⟩
 have hj0 : j = 0 := by
  have := (List.getElem?_eq_some_iff.1 hj).1
  simp at this; exact this
 subst hj0
 simp only [List.getElem?_cons_zero, Option.some.injEq] at hj
 subst hj
 refine ⟨_, fun i u hi => ?_, ua, up, rfl, h1, h2⟩
 have e : w.cell? ⟨g, 0 + 0 * (fiG n).k + i, none⟩ = (#[Value.int .i64 x.kind, strV x.attr, strV x.value, strV x.first, strV x.last, ua, up] : Array Value)[i]? := by
  rw [Nat.zero_mul, Nat.zero_add]; exact h.cell i
 rw [e, List.getElem?_toArray]
 exact hi
theorem infoFi : ((Tryz.prog.info? 33).bind fun i => if i.size = 7 /\ i.bytes = 120 then i.zero.map (fun z => z.cells.size) else none) = some 7 := by kernel_rfl
theorem infoFi_parts : ∃ i0 z, Tryz.prog.info? 33 = some i0 /\ i0.zero = some z /\ i0.size = 7 /\ i0.bytes = 120 /\ z.cells.size = 7 := by
 have h := infoFi
 rw [Option.bind_eq_some_iff] at h
 obtain ⟨i, h1, h2⟩ := h
 split at h2
 · rename_i hs
   rw [Option.map_eq_some_iff] at h2
   obtain ⟨z, h3, h4⟩ := h2
   exact ⟨i, z, h1, h3, hs.1, hs.2, h4⟩
 · cases h2
theorem flskip_yes (rb : Nat) (c : UInt8) (r : List UInt8) (lf : Int) (w : World) (h : Whole w rb 72 #[.string ⟨(c :: r).toArray⟩, .int .i64 lf]) : Calls Tryz.prog 48 #[.pointer (some ⟨rb, 0, none⟩), .int .u8 (c.toNat : Int)] w fun e w' => e = .returned (.bool true) /\ w' = w.setCell ⟨rb, 0, none⟩ (.string ⟨r.toArray⟩) := by
 have hemp : (c :: r).isEmpty = false := rfl
 have hq : ∀ h, (⟨(c :: r).toArray⟩ : ByteArray)[0]'h = c := fun _ => rfl
 have h0 : 0 < (c :: r).length := by simp
 have h01 : (1 : Int) <= ((c :: r).length : Int) := by omega
 have hx : (⟨(c :: r).toArray⟩ : ByteArray).extract 1 (c :: r).length = ⟨r.toArray⟩ := by rw [mk_extract, List.take_length]; rfl
 generalize c :: r = l at *
 have q0 : w.cell? ⟨rb, 0, none⟩ = some (.string ⟨l.toArray⟩) := h.cell 0
 have t0 := h.thaw 0
 go_enter Tryz.func48, Tryz.ntmps48
 go_wp2_with fail
 go_ret
 exact ⟨rfl, rfl⟩
theorem flskip_no (rb : Nat) (c : UInt8) (s : List UInt8) (lf : Int) (w : World) (h : Whole w rb 72 #[.string ⟨s.toArray⟩, .int .i64 lf]) (hs : s.head? ≠ some c) : Calls Tryz.prog 48 #[.pointer (some ⟨rb, 0, none⟩), .int .u8 (c.toNat : Int)] w fun e w' => e = .returned (.bool false) /\ w = w' := by
 have q0 : w.cell? ⟨rb, 0, none⟩ = some (.string ⟨s.toArray⟩) := h.cell 0
 match s, hs with
 | [], _ =>
  go_enter Tryz.func48, Tryz.ntmps48
  go_wp2_with fail
  go_ret
  exact ⟨rfl, rfl⟩
 | d :: r, hs =>
  have hemp : (d :: r).isEmpty = false := rfl
  have hq : ∀ h, (⟨(d :: r).toArray⟩ : ByteArray)[0]'h = d := fun _ => rfl
  have h0 : 0 < (d :: r).length := by simp
  have hdc : d ≠ c := fun e => hs (by rw [e]; rfl)
  generalize d :: r = l at *
  have HDC := hZ9 hdc
  have e1 : ((d.toNat : Int) == (c.toNat : Int)) = false := beq_eq_false_iff_ne.2 (fun h => HDC.out (UInt8.toNat_inj.1 (by omega)))
  have e2 : ((d.toNat : Int) != (c.toNat : Int)) = true := by rw [bne_iff_ne]; exact fun h => HDC.out (UInt8.toNat_inj.1 (by omega))
  have e3 : (d.toNat == c.toNat) = false := beq_eq_false_iff_ne.2 (fun h => HDC.out (UInt8.toNat_inj.1 h))
  have e4 : (d.toNat != c.toNat) = true := by rw [bne_iff_ne]; exact fun h => HDC.out (UInt8.toNat_inj.1 h)
  have e5 : (d == c) = false := beq_eq_false_iff_ne.2 HDC.out
  have e6 : (d != c) = true := by rw [bne_iff_ne]; exact HDC.out
  clear hs hdc
  go_enter Tryz.func48, Tryz.ntmps48
  go_wp2_with fail
  go_ret
  exact ⟨rfl, rfl⟩
def ReadR (rb n d : Nat) (s : List UInt8) (w : World) (e : Ending) (w' : World) : Prop := (∃ v, e = .returned (.tuple #[v, .bool (FiS.readS n d s).isSome]) /\ FiForm v /\ ∀ x rest m, FiS.readS n d s = some (x, rest, m) -> FiV n (fun g => w.heap.size <= g) w' v x /\ Whole w' rb 72 #[.string ⟨rest.toArray⟩, .int .i64 (m : Int)]) /\ Kept2 w.heap.size rb w w'
theorem ReadR.no {rb n d : Nat} {s : List UInt8} {w w' : World} {v : Value} (h : FiS.readS n d s = none) (hv : FiForm v) (hk : Kept2 w.heap.size rb w w') : ReadR rb n d s w (.returned (.tuple #[v, .bool false])) w' :=
 ⟨⟨v, by rw [h]; rfl, hv, fun x rest m hx => by rw [h] at hx; cases hx⟩, hk⟩
theorem ReadR.yes {rb n d : Nat} {s : List UInt8} {w w' : World} {v : Value} {x : Fi} {rest : List UInt8} {m : Nat} (h : FiS.readS n d s = some (x, rest, m)) (hv : FiV n (fun g => w.heap.size <= g) w' v x) (hw : Whole w' rb 72 #[.string ⟨rest.toArray⟩, .int .i64 (m : Int)]) (hk : Kept2 w.heap.size rb w w') : ReadR rb n d s w (.returned (.tuple #[v, .bool true])) w' := by
 refine ⟨⟨v, by rw [h]; rfl, hv.form, fun y r k hx => ?_⟩, hk⟩
 rw [h] at hx
 injection hx with hx
 simp only [Prod.mk.injEq] at hx
 obtain ⟨rfl, rfl, rfl⟩ := hx
 exact ⟨hv, hw⟩
def ReadC (n : Nat) : Prop := ∀ (d : Nat) (di : Int) (s : List UInt8) (rb : Nat) (w0 w : World), Whole w rb 72 #[.string ⟨s.toArray⟩, .int .i64 (n : Int)] -> s.length <= 16384 -> d <= 21 -> di = (d : Int) -> n <= 40 -> Env w0 -> w0.heap.size <= rb -> Below w0.heap.size w0 w -> Calls Tryz.prog 36 #[.pointer (some ⟨rb, 0, none⟩), .int .i64 di] w (ReadR rb n d s w)
theorem flread_c (n : Nat) (IH : ∀ m, m < n -> ReadC m) : ReadC n := by
 unfold ReadC at *
 intro d di s rb w0 w hwr hsl hd hdi hn40 hE hrb0 hb0
 have hlt := hwr.lt
 have hne : w.heap.size ≠ rb := by omega
 have hg0 := grow1 w (.cells #[.int .i64 0, .string ⟨#[]⟩, .string ⟨#[]⟩, .string ⟨#[]⟩, .string ⟨#[]⟩, .slice none 0 0, .slice none 0 0] 33)
 have hwf := Whole.made w 33 #[.int .i64 0, .string ⟨#[]⟩, .string ⟨#[]⟩, .string ⟨#[]⟩, .string ⟨#[]⟩, .slice none 0 0, .slice none 0 0]
 have hdi2 : 0 <= di /\ di <= 21 := by omega
 have HDI := hZ9 hdi
 clear hdi
 match n, hn40, hwr, IH with
 | 0, _, hwr, _ =>
  have hwr0 : Whole w rb 72 #[.string ⟨s.toArray⟩, .int .i64 0] := hwr
  have a0 := hwr0.cell 0
  have a1 := hwr0.cell 1
  have a2 := hwr0.thaw 0
  have a3 := hwr0.thaw 1
  simp only [List.getElem?_toArray, List.getElem?_cons_zero, List.getElem?_cons_succ] at a0 a1
  have hwrS := hwr0.put 1 (.int .i64 (-1))
  simp only [List.setIfInBounds_toArray, List.set_cons_zero, List.set_cons_succ] at hwrS
  have hwr2 := hwrS.call (grow1 _ (.cells #[.int .i64 0, .string ⟨#[]⟩, .string ⟨#[]⟩, .string ⟨#[]⟩, .string ⟨#[]⟩, .slice none 0 0, .slice none 0 0] 33))
  have hszS : (w.setCell ⟨rb, 1, none⟩ (.int .i64 (-1))).heap.size = w.heap.size := by simp [World.setCell]
  have hwf2 : Whole ((w.setCell ⟨rb, 1, none⟩ (.int .i64 (-1))).alloc (.cells #[.int .i64 0, .string ⟨#[]⟩, .string ⟨#[]⟩, .string ⟨#[]⟩, .string ⟨#[]⟩, .slice none 0 0, .slice none 0 0] 33)) w.heap.size 33 #[.int .i64 0, .string ⟨#[]⟩, .string ⟨#[]⟩, .string ⟨#[]⟩, .string ⟨#[]⟩, .slice none 0 0, .slice none 0 0] := by
   have := Whole.made (w.setCell ⟨rb, 1, none⟩ (.int .i64 (-1))) 33 #[.int .i64 0, .string ⟨#[]⟩, .string ⟨#[]⟩, .string ⟨#[]⟩, .string ⟨#[]⟩, .slice none 0 0, .slice none 0 0]
   rwa [hszS] at this
  have hK := (((Kept2.refl w.heap.size rb w).setCell 1 (.int .i64 (-1))).alloc (by omega) (by rw [hszS]; exact Nat.le_refl _) (.cells #[.int .i64 0, .string ⟨#[]⟩, .string ⟨#[]⟩, .string ⟨#[]⟩, .string ⟨#[]⟩, .slice none 0 0, .slice none 0 0] 33))
  clear hwrS hszS
  have HN : Hid (FiS.readS 0 d s = none) := hZ9 (FiS.readS_none (.inl rfl))
  clear hwr hwr0
  go_enter Tryz.func36, Tryz.ntmps36
  go_upto_region 2 with fail
  generalize (w.setCell ⟨rb, 1, none⟩ (.int .i64 (-1))).alloc (.cells #[.int .i64 0, .string ⟨#[]⟩, .string ⟨#[]⟩, .string ⟨#[]⟩, .string ⟨#[]⟩, .slice none 0 0, .slice none 0 0] 33) = w1 at *
  have b0 := hwr2.cell 0
  have b1 := hwr2.cell 1
  have b2 := hwr2.thaw 0
  have b3 := hwr2.thaw 1
  simp only [List.getElem?_toArray, List.getElem?_cons_zero, List.getElem?_cons_succ] at b0 b1
  obtain ⟨r0, r1, r2, r3, r4, r5, r6⟩ := hwf2.seven
  obtain ⟨t0, t1, t2, t3, t4, t5, t6⟩ := hwf2.thaws
  obtain ⟨e0, e1, e2, e3, e4, e5, e6⟩ := hwf2.sames
  go_wp2_with fail
  (try simp only [Exit.inBlock, Exit.then])
  refine bodyPost_ret (v := .tuple #[.agg #[.int .i64 0, .string ⟨#[]⟩, .string ⟨#[]⟩, .string ⟨#[]⟩, .string ⟨#[]⟩, .slice none 0 0, .slice none 0 0], .bool false]) ?_ rfl (ReadR.no HN.out ⟨.mk 0 [] [] [] [] [] [], none, none, 0, 0, 0, 0, rfl⟩ hK)
  rw [results_cell_tmp rfl]
  go_simp
 | m + 1, hn40, hwr, IH =>
  have hwr0 : Whole w rb 72 #[.string ⟨s.toArray⟩, .int .i64 ((m : Int) + 1)] := hwr
  have a0 := hwr0.cell 0
  have a1 := hwr0.cell 1
  have a2 := hwr0.thaw 0
  have a3 := hwr0.thaw 1
  simp only [List.getElem?_toArray, List.getElem?_cons_zero, List.getElem?_cons_succ] at a0 a1
  have hwrS := hwr0.put 1 (.int .i64 (m : Int))
  simp only [List.setIfInBounds_toArray, List.set_cons_zero, List.set_cons_succ] at hwrS
  have hwr2 := hwrS.call (grow1 _ (.cells #[.int .i64 0, .string ⟨#[]⟩, .string ⟨#[]⟩, .string ⟨#[]⟩, .string ⟨#[]⟩, .slice none 0 0, .slice none 0 0] 33))
  have hszS : (w.setCell ⟨rb, 1, none⟩ (.int .i64 (m : Int))).heap.size = w.heap.size := by simp [World.setCell]
  have hwf2 : Whole ((w.setCell ⟨rb, 1, none⟩ (.int .i64 (m : Int))).alloc (.cells #[.int .i64 0, .string ⟨#[]⟩, .string ⟨#[]⟩, .string ⟨#[]⟩, .string ⟨#[]⟩, .slice none 0 0, .slice none 0 0] 33)) w.heap.size 33 #[.int .i64 0, .string ⟨#[]⟩, .string ⟨#[]⟩, .string ⟨#[]⟩, .string ⟨#[]⟩, .slice none 0 0, .slice none 0 0] := by
   have := Whole.made (w.setCell ⟨rb, 1, none⟩ (.int .i64 (m : Int))) 33 #[.int .i64 0, .string ⟨#[]⟩, .string ⟨#[]⟩, .string ⟨#[]⟩, .string ⟨#[]⟩, .slice none 0 0, .slice none 0 0]
   rwa [hszS] at this
  have hK := (((Kept2.refl w.heap.size rb w).setCell 1 (.int .i64 (m : Int))).alloc (by omega) (by rw [hszS]; exact Nat.le_refl _) (.cells #[.int .i64 0, .string ⟨#[]⟩, .string ⟨#[]⟩, .string ⟨#[]⟩, .string ⟨#[]⟩, .slice none 0 0, .slice none 0 0] 33))
  clear hwrS hszS
  have hm40 : m <= 40 := by omega
  have hm0 : decide ((m : Int) < 0) = false := decide_eq_false (by omega)
  clear hwr hwr0 hwf
  go_enter Tryz.func36, Tryz.ntmps36
  go_upto_region 2 with fail
  generalize (w.setCell ⟨rb, 1, none⟩ (.int .i64 (m : Int))).alloc (.cells #[.int .i64 0, .string ⟨#[]⟩, .string ⟨#[]⟩, .string ⟨#[]⟩, .string ⟨#[]⟩, .slice none 0 0, .slice none 0 0] 33) = w1 at *
  clear a0 a1 a2 a3 hg0
  have b0 := hwr2.cell 0
  have b1 := hwr2.cell 1
  have b2 := hwr2.thaw 0
  have b3 := hwr2.thaw 1
  simp only [List.getElem?_toArray, List.getElem?_cons_zero, List.getElem?_cons_succ] at b0 b1
  by_cases hd21 : d = 21
  case pos =>
   have hdb : decide ((20 : Int) < di) = true := decide_eq_true (by have := HDI.out; omega)
   have HN : Hid (FiS.readS (m + 1) d s = none) := hZ9 (FiS.readS_none (.inr (by omega)))
   clear IH
   obtain ⟨r0, r1, r2, r3, r4, r5, r6⟩ := hwf2.seven
   obtain ⟨t0, t1, t2, t3, t4, t5, t6⟩ := hwf2.thaws
   obtain ⟨e0, e1, e2, e3, e4, e5, e6⟩ := hwf2.sames
   go_wp2_with fail
   (try simp only [Exit.inBlock, Exit.then])
   refine bodyPost_ret (v := .tuple #[.agg #[.int .i64 0, .string ⟨#[]⟩, .string ⟨#[]⟩, .string ⟨#[]⟩, .string ⟨#[]⟩, .slice none 0 0, .slice none 0 0], .bool false]) ?_ rfl (ReadR.no HN.out ⟨.mk 0 [] [] [] [] [] [], none, none, 0, 0, 0, 0, rfl⟩ hK)
   rw [results_cell_tmp rfl]
   go_simp
  have hdb : decide ((20 : Int) < di) = false := decide_eq_false (by have := HDI.out; omega)
  have hdi3 : di <= 20 := by have := HDI.out; omega
  have hd20 : ¬ (m + 1 = 0 \/ 20 < d) := by omega
  by_cases hh : s.head? = some 40
  case neg =>
   have hsk := flskip_no rb 40 s _ w1 hwr2 hh
   have HN : Hid (FiS.readS (m + 1) d s = none) := hZ9 (FiS.readS_head (by
    match s, hh with
    | [], _ => rfl
    | [_], _ => rfl
    | b :: c :: r, hh =>
     show (if b = 40 then some (c, r) else none) = none
     rw [if_neg (fun e => hh (by rw [e]; rfl))]))
   clear IH hh
   go_wp2_with fail
   refine hsk.mono ?_; rintro e w9 ⟨rfl, rfl⟩
   obtain ⟨r0, r1, r2, r3, r4, r5, r6⟩ := hwf2.seven
   obtain ⟨t0, t1, t2, t3, t4, t5, t6⟩ := hwf2.thaws
   obtain ⟨e0, e1, e2, e3, e4, e5, e6⟩ := hwf2.sames
   go_wp2_with fail
   (try simp only [Exit.inBlock, Exit.then])
   refine bodyPost_ret (v := .tuple #[.agg #[.int .i64 0, .string ⟨#[]⟩, .string ⟨#[]⟩, .string ⟨#[]⟩, .string ⟨#[]⟩, .slice none 0 0, .slice none 0 0], .bool false]) ?_ rfl (ReadR.no HN.out ⟨.mk 0 [] [] [] [] [] [], none, none, 0, 0, 0, 0, rfl⟩ hK)
   rw [results_cell_tmp rfl]
   go_simp
  obtain ⟨t, rfl⟩ : ∃ t, s = 40 :: t := by
   match s, hh with
   | b :: r, hh => exact ⟨r, by simpa using hh⟩
  have hsk := flskip_yes rb 40 t _ w1 hwr2
  clear hh
  have hwr3 := hwr2.put 0 (.string ⟨t.toArray⟩)
  simp only [List.setIfInBounds_toArray, List.set_cons_zero] at hwr3
  have hwf3 := hwf2.other (p := ⟨rb, 0, none⟩) hne (.string ⟨t.toArray⟩)
  have hK3 := hK.setCell 0 (.string ⟨t.toArray⟩)
  clear hwr2 hwf2 hK
  go_wp2_with fail
  refine hsk.mono ?_; rintro e w9 ⟨rfl, rfl⟩
  clear hsk b0 b1 b2 b3
  generalize w1.setCell ⟨rb, 0, none⟩ (.string ⟨t.toArray⟩) = w3 at *
  clear w1
  have b0 := hwr3.cell 0
  have b1 := hwr3.cell 1
  have b2 := hwr3.thaw 0
  have b3 := hwr3.thaw 1
  simp only [List.getElem?_toArray, List.getElem?_cons_zero, List.getElem?_cons_succ] at b0 b1
  by_cases hte : t = []
  case pos =>
   subst hte
   have HN : Hid (FiS.readS (m + 1) d [40] = none) := hZ9 (FiS.readS_head rfl)
   clear IH
   obtain ⟨r0, r1, r2, r3, r4, r5, r6⟩ := hwf3.seven
   obtain ⟨t0, t1, t2, t3, t4, t5, t6⟩ := hwf3.thaws
   obtain ⟨e0, e1, e2, e3, e4, e5, e6⟩ := hwf3.sames
   go_wp2_with fail
   (try simp only [Exit.inBlock, Exit.then])
   refine bodyPost_ret (v := .tuple #[.agg #[.int .i64 0, .string ⟨#[]⟩, .string ⟨#[]⟩, .string ⟨#[]⟩, .string ⟨#[]⟩, .slice none 0 0, .slice none 0 0], .bool false]) ?_ rfl (ReadR.no HN.out ⟨.mk 0 [] [] [] [] [] [], none, none, 0, 0, 0, 0, rfl⟩ hK3)
   rw [results_cell_tmp rfl]
   go_simp
  obtain ⟨c, r, rfl⟩ : ∃ c r, t = c :: r := by
   cases t with
   | nil => exact absurd rfl hte
   | cons c r => exact ⟨c, r, rfl⟩
  clear hte
  have hrl : r.length <= 16382 := by simp only [List.length_cons] at hsl; omega
  have hemp : (c :: r).isEmpty = false := rfl
  have hq : ∀ h, (⟨(c :: r).toArray⟩ : ByteArray)[0]'h = c := fun _ => rfl
  have h0 : 0 < (c :: r).length := by simp
  have h01 : (1 : Int) <= ((c :: r).length : Int) := by omega
  have hx : (⟨(c :: r).toArray⟩ : ByteArray).extract 1 (c :: r).length = ⟨r.toArray⟩ := by rw [mk_extract, List.take_length]; rfl
  have HOP : Hid (∀ k, FiS.opK c = some k -> FiS.readS (m + 1) d (40 :: c :: r) = (FiS.partsS m d r).map (fun q => (.mk k [] [] [] [] [] q.1, q.2))) := hZ9 (fun k hk => FiS.readS_op hd20 hk)
  have HIT : Hid (FiS.opK c = none -> FiS.readS (m + 1) d (40 :: c :: r) = match FiS.cutB (c :: r) with
   | some (item, rest) => (FiS.leafS item).map (fun x => (x, rest, m))
   | none => none) := hZ9 (fun hk => FiS.readS_item hd20 hk)
  have HCT := hZ9 (FiS.cut_cutB (c :: r))
  have HCL1 := hZ9 (fun a b (h : FiS.cutB (c :: r) = some (a, b)) => FiS.cutB_len1 h)
  have hcl : (c :: r).length <= 16384 := by simp only [List.length_cons] at hsl ⊢; omega
  clear hsl
  obtain ⟨t, ht⟩ : ∃ x, c :: r = x := ⟨_, rfl⟩
  rw [ht] at hemp hq h0 h01 hx HCT HCL1 hcl b0 hwr3
  have HTT := hZ9 ht
  clear ht
  have hib := fun w => Tryz.strings_IndexByte ⟨#[38, 124, 33]⟩ (c.toNat : Int) w
  have hd1 : (⟨#[38, 124, 33]⟩ : ByteArray).data.toList = [38, 124, 33] := rfl
  have hd2 : ((c.toNat : Int).toNat.toUInt8) = c := by rw [Int.toNat_natCast]; exact UInt8.ofNat_toNat
  rw [hd1, hd2, FiS.opens_index] at hib
  clear hd1 hd2
  replace hib := fun w => (hib w).mono (fun e w' (h : _ /\ _) => (⟨h.1, h.2.symm⟩ : e = .returned (.int .i64 ((FiS.opK c).getD (-1))) /\ w = w'))
  have s0 := hwf3.cell 0
  have u0 := hwf3.thaw 0
  simp only [List.getElem?_toArray, List.getElem?_cons_zero] at s0
  cases hop : FiS.opK c with
  | none =>
   rw [hop] at hib
   have hib : ∀ W, Calls Tryz.prog 49 #[.string ⟨#[38, 124, 33]⟩, .int .u8 (c.toNat : Int)] W fun e w' => e = .returned (.int .i64 (-1)) /\ W = w' := hib
   have HI := hZ9 (HIT.out hop)
   clear HOP HIT hop IH
   have hwf4 := hwf3.put 0 (.int .i64 (-1))
   simp only [List.setIfInBounds_toArray, List.set_cons_zero] at hwf4
   have hwr4 := hwr3.other (p := ⟨w.heap.size, 0, none⟩) (fun e => hne e.symm) (.int .i64 (-1))
   have hK4 := hK3.far (g := w.heap.size) (Nat.le_refl _) (by omega) 0 (.int .i64 (-1))
   go_wp2_with fail
   refine (hib _).mono ?_; rintro e w9 ⟨rfl, rfl⟩
   go_upto_region 5 with fail
   generalize w3.setCell ⟨w.heap.size, 0, none⟩ (.int .i64 (-1)) = w4 at *
   clear hib s0 u0 b0 b1 b2 b3 hwf3 hwr3 hK3 hemp hq h0 h01 hx
   have b0 := hwr4.cell 0
   have b1 := hwr4.cell 1
   have b2 := hwr4.thaw 0
   have b3 := hwr4.thaw 1
   simp only [List.getElem?_toArray, List.getElem?_cons_zero, List.getElem?_cons_succ] at b0 b1
   have s0 := hwf4.cell 0
   simp only [List.getElem?_toArray, List.getElem?_cons_zero] at s0
   have hb4 := hb0.trans (hK4.1.mono hrb0)
   have hcut : ∀ W, Env W -> Calls Tryz.prog 50 #[.string ⟨t.toArray⟩, .string ⟨#[41]⟩] W fun e w' => e = .returned (.tuple #[.string ⟨(Lib.cut t [41]).1.toArray⟩, .string ⟨(Lib.cut t [41]).2.1.toArray⟩, .bool (Lib.cut t [41]).2.2]) /\ Below W.heap.size W w' := fun W hEW => by
    obtain ⟨q, hq⟩ := hEW.maxLen
    refine (Tryz.strings_Cut ⟨t.toArray⟩ ⟨#[41]⟩ q W (by rw [bsize]; omega) hq).mono ?_
    rintro e w' ⟨rfl, k, rfl⟩
    exact ⟨rfl, below_drewN W k⟩
   rw [HCT.out] at hcut
   have hcut4 := hcut w4 (hE.below hb4)
   clear hcut HCT
   have hFBlt := hwf4.lt
   cases hcb : FiS.cutB t with
   | some ab =>
    obtain ⟨it, rest⟩ := ab
    rw [hcb] at hcut4
    have hitl : it.length <= 16384 := Nat.le_trans (HCL1.out _ _ hcb) hcl
    have HI2 : Hid (FiS.readS (m + 1) d (40 :: c :: r) = (FiS.leafS it).map (fun x => (x, rest, m))) := hZ9 (by rw [HI.out, HTT.out, hcb])
    have hcut4 : Calls Tryz.prog 50 #[.string ⟨t.toArray⟩, .string ⟨#[41]⟩] w4 fun e w' => e = .returned (.tuple #[.string ⟨it.toArray⟩, .string ⟨rest.toArray⟩, .bool true]) /\ Below w4.heap.size w4 w' := hcut4
    clear HI HCL1 hcb
    go_wp2_with fail
    refine hcut4.mono ?_; rintro e w5 ⟨rfl, hb5⟩
    have hwr5 := hwr4.call hb5
    have hwf5 := hwf4.call hb5
    have hK5 := hK4.grow hb5 (by omega) hK4.1.size
    have hb05 := hb4.trans (hb5.mono hb4.size)
    clear hcut4 b0 b1 b2 b3 s0 hwr4 hwf4 hK4
    have b0 := hwr5.cell 0
    have b1 := hwr5.cell 1
    have b2 := hwr5.thaw 0
    have b3 := hwr5.thaw 1
    simp only [List.getElem?_toArray, List.getElem?_cons_zero, List.getElem?_cons_succ] at b0 b1
    have hwr6 := hwr5.put 0 (.string ⟨rest.toArray⟩)
    simp only [List.setIfInBounds_toArray, List.set_cons_zero] at hwr6
    have hwf6 := hwf5.other (p := ⟨rb, 0, none⟩) hne (.string ⟨rest.toArray⟩)
    have hK6 := hK5.setCell 0 (.string ⟨rest.toArray⟩)
    have hb06 := hb05.setCell (p := ⟨rb, 0, none⟩) hrb0 (.string ⟨rest.toArray⟩)
    have hlf := fleaf_c it hitl (w5.setCell ⟨rb, 0, none⟩ (.string ⟨rest.toArray⟩)) (hE.below hb06)
    unfold LeafRet at hlf
    go_upto_region 8 with fail
    generalize w5.setCell ⟨rb, 0, none⟩ (.string ⟨rest.toArray⟩) = w6 at *
    clear b0 b1 b2 b3 hwr5 hwf5 hK5 hb5 hb4 hb05
    cases hlo : FiS.leafS it with
    | none =>
     rw [hlo] at hlf HI2
     go_wp2_with fail
     refine hlf.mono ?_; rintro e w7 ⟨v, rfl, ⟨y, s1, s2, n1, c1, n2, c2, rfl⟩, hall, hb7⟩
     have hwr7 := hwr6.call hb7
     have hwf7 := hwf6.call hb7
     have hK7 := hK6.grow hb7 (by omega) hK6.1.size
     have hs67 := hb7.size
     have hFB6 := hwf6.lt
     clear hlf hwr6 hwf6 hK6
     obtain ⟨v0, v1, v2, v3, v4, v5, v6⟩ := hwf7.seven
     obtain ⟨z0, z1, z2, z3, z4, z5, z6⟩ := hwf7.thaws
     have hwf8 := hwf7.put7 (.int .i64 y.kind) (.string ⟨y.attr.toArray⟩) (.string ⟨y.value.toArray⟩) (.string ⟨y.first.toArray⟩) (.string ⟨y.last.toArray⟩) (.slice s1 n1 c1) (.slice s2 n2 c2)
     have hwr8 := hwr7.other7 (g := w.heap.size) (fun e => hne e.symm) (.int .i64 y.kind) (.string ⟨y.attr.toArray⟩) (.string ⟨y.value.toArray⟩) (.string ⟨y.first.toArray⟩) (.string ⟨y.last.toArray⟩) (.slice s1 n1 c1) (.slice s2 n2 c2)
     have hK8 := ((((((hK7.far (g := w.heap.size) (Nat.le_refl _) (by omega) 0 (.int .i64 y.kind)).far (g := w.heap.size) (Nat.le_refl _) (by omega) 1 (.string ⟨y.attr.toArray⟩)).far (g := w.heap.size) (Nat.le_refl _) (by omega) 2 (.string ⟨y.value.toArray⟩)).far (g := w.heap.size) (Nat.le_refl _) (by omega) 3 (.string ⟨y.first.toArray⟩)).far (g := w.heap.size) (Nat.le_refl _) (by omega) 4 (.string ⟨y.last.toArray⟩)).far (g := w.heap.size) (Nat.le_refl _) (by omega) 5 (.slice s1 n1 c1)).far (g := w.heap.size) (Nat.le_refl _) (by omega) 6 (.slice s2 n2 c2)
     unfold sev at hwf8 hwr8
     clear hall hwr7 hwf7 hK7
     go_upto_region 9 with fail
     generalize ((((((((((((((w7).setCell ⟨w.heap.size, 0, none⟩ (.int .i64 y.kind))).setCell ⟨w.heap.size, 1, none⟩ (.string ⟨y.attr.toArray⟩))).setCell ⟨w.heap.size, 2, none⟩ (.string ⟨y.value.toArray⟩))).setCell ⟨w.heap.size, 3, none⟩ (.string ⟨y.first.toArray⟩))).setCell ⟨w.heap.size, 4, none⟩ (.string ⟨y.last.toArray⟩))).setCell ⟨w.heap.size, 5, none⟩ (.slice s1 n1 c1))).setCell ⟨w.heap.size, 6, none⟩ (.slice s2 n2 c2)) = w8 at *
     clear v0 v1 v2 v3 v4 v5 v6 z0 z1 z2 z3 z4 z5 z6
     obtain ⟨r0, r1, r2, r3, r4, r5, r6⟩ := hwf8.seven
     obtain ⟨t0, t1, t2, t3, t4, t5, t6⟩ := hwf8.thaws
     obtain ⟨e0, e1, e2, e3, e4, e5, e6⟩ := hwf8.sames
     go_wp2_with fail
     (try simp only [Exit.inBlock, Exit.then])
     refine bodyPost_ret (v := .tuple #[.agg #[.int .i64 y.kind, .string ⟨y.attr.toArray⟩, .string ⟨y.value.toArray⟩, .string ⟨y.first.toArray⟩, .string ⟨y.last.toArray⟩, .slice s1 n1 c1, .slice s2 n2 c2], .bool false]) ?_ rfl (ReadR.no HI2.out ⟨y, s1, s2, n1, c1, n2, c2, rfl⟩ hK8)
     rw [results_cell_tmp rfl]
     go_simp
    | some x =>
     have HI3 : Hid (FiS.readS (m + 1) d (40 :: c :: r) = some (x, rest, m)) := hZ9 (by rw [HI2.out, hlo]; rfl)
     rw [hlo] at hlf
     go_wp2_with fail
     refine hlf.mono ?_; rintro e w7 ⟨v, rfl, ⟨y, s1, s2, n1, c1, n2, c2, rfl⟩, hall, hb7⟩
     have hwr7 := hwr6.call hb7
     have hwf7 := hwf6.call hb7
     have hK7 := hK6.grow hb7 (by omega) hK6.1.size
     have hs67 := hb7.size
     have hFB6 := hwf6.lt
     clear hlf hwr6 hwf6 hK6
     obtain ⟨v0, v1, v2, v3, v4, v5, v6⟩ := hwf7.seven
     obtain ⟨z0, z1, z2, z3, z4, z5, z6⟩ := hwf7.thaws
     have hwf8 := hwf7.put7 (.int .i64 y.kind) (.string ⟨y.attr.toArray⟩) (.string ⟨y.value.toArray⟩) (.string ⟨y.first.toArray⟩) (.string ⟨y.last.toArray⟩) (.slice s1 n1 c1) (.slice s2 n2 c2)
     have hwr8 := hwr7.other7 (g := w.heap.size) (fun e => hne e.symm) (.int .i64 y.kind) (.string ⟨y.attr.toArray⟩) (.string ⟨y.value.toArray⟩) (.string ⟨y.first.toArray⟩) (.string ⟨y.last.toArray⟩) (.slice s1 n1 c1) (.slice s2 n2 c2)
     have hK8 := ((((((hK7.far (g := w.heap.size) (Nat.le_refl _) (by omega) 0 (.int .i64 y.kind)).far (g := w.heap.size) (Nat.le_refl _) (by omega) 1 (.string ⟨y.attr.toArray⟩)).far (g := w.heap.size) (Nat.le_refl _) (by omega) 2 (.string ⟨y.value.toArray⟩)).far (g := w.heap.size) (Nat.le_refl _) (by omega) 3 (.string ⟨y.first.toArray⟩)).far (g := w.heap.size) (Nat.le_refl _) (by omega) 4 (.string ⟨y.last.toArray⟩)).far (g := w.heap.size) (Nat.le_refl _) (by omega) 5 (.slice s1 n1 c1)).far (g := w.heap.size) (Nat.le_refl _) (by omega) 6 (.slice s2 n2 c2)
     have HKEEP : Hid (FiV (m + 1) (fun g => w.heap.size <= g) (sev w7 w.heap.size (.int .i64 y.kind) (.string ⟨y.attr.toArray⟩) (.string ⟨y.value.toArray⟩) (.string ⟨y.first.toArray⟩) (.string ⟨y.last.toArray⟩) (.slice s1 n1 c1) (.slice s2 n2 c2)) (.agg #[.int .i64 y.kind, .string ⟨y.attr.toArray⟩, .string ⟨y.value.toArray⟩, .string ⟨y.first.toArray⟩, .string ⟨y.last.toArray⟩, .slice s1 n1 c1, .slice s2 n2 c2]) x) := hZ9 ((hall x rfl (m + 1)).keep (below_sev (Below.refl w.heap.size w7) (Nat.le_refl _) (.int .i64 y.kind) (.string ⟨y.attr.toArray⟩) (.string ⟨y.value.toArray⟩) (.string ⟨y.first.toArray⟩) (.string ⟨y.last.toArray⟩) (.slice s1 n1 c1) (.slice s2 n2 c2)).size (fun g hg hok => by
      have hok : w6.heap.size <= g := hok
      unfold sev
      rw [Below.heap_setCell _ _ _ _ (by show g ≠ w.heap.size; omega), Below.heap_setCell _ _ _ _ (by show g ≠ w.heap.size; omega), Below.heap_setCell _ _ _ _ (by show g ≠ w.heap.size; omega), Below.heap_setCell _ _ _ _ (by show g ≠ w.heap.size; omega), Below.heap_setCell _ _ _ _ (by show g ≠ w.heap.size; omega), Below.heap_setCell _ _ _ _ (by show g ≠ w.heap.size; omega), Below.heap_setCell _ _ _ _ (by show g ≠ w.heap.size; omega)]) (fun g _ hok => by
      have hok : w6.heap.size <= g := hok
      show w.heap.size <= g
      omega))
     unfold sev at hwf8 hwr8 HKEEP
     clear hall hwr7 hwf7 hK7
     go_upto_region 9 with fail
     generalize ((((((((((((((w7).setCell ⟨w.heap.size, 0, none⟩ (.int .i64 y.kind))).setCell ⟨w.heap.size, 1, none⟩ (.string ⟨y.attr.toArray⟩))).setCell ⟨w.heap.size, 2, none⟩ (.string ⟨y.value.toArray⟩))).setCell ⟨w.heap.size, 3, none⟩ (.string ⟨y.first.toArray⟩))).setCell ⟨w.heap.size, 4, none⟩ (.string ⟨y.last.toArray⟩))).setCell ⟨w.heap.size, 5, none⟩ (.slice s1 n1 c1))).setCell ⟨w.heap.size, 6, none⟩ (.slice s2 n2 c2)) = w8 at *
     clear v0 v1 v2 v3 v4 v5 v6 z0 z1 z2 z3 z4 z5 z6
     have hfv := HKEEP.out
     obtain ⟨r0, r1, r2, r3, r4, r5, r6⟩ := hwf8.seven
     obtain ⟨t0, t1, t2, t3, t4, t5, t6⟩ := hwf8.thaws
     obtain ⟨e0, e1, e2, e3, e4, e5, e6⟩ := hwf8.sames
     go_wp2_with fail
     (try simp only [Exit.inBlock, Exit.then])
     refine bodyPost_ret (v := .tuple #[.agg #[.int .i64 y.kind, .string ⟨y.attr.toArray⟩, .string ⟨y.value.toArray⟩, .string ⟨y.first.toArray⟩, .string ⟨y.last.toArray⟩, .slice s1 n1 c1, .slice s2 n2 c2], .bool true]) ?_ rfl (ReadR.yes HI3.out hfv hwr8 hK8)
     rw [results_cell_tmp rfl]
     go_simp
   | none =>
    rw [hcb] at hcut4
    have hitl : t.length <= 16384 := hcl
    have HI2 : Hid (FiS.readS (m + 1) d (40 :: c :: r) = none) := hZ9 (by rw [HI.out, HTT.out, hcb])
    have hcut4 : Calls Tryz.prog 50 #[.string ⟨t.toArray⟩, .string ⟨#[41]⟩] w4 fun e w' => e = .returned (.tuple #[.string ⟨t.toArray⟩, .string ⟨#[]⟩, .bool false]) /\ Below w4.heap.size w4 w' := hcut4
    clear HI HCL1 hcb
    obtain ⟨rest, hrest⟩ : ∃ r : List UInt8, r = [] := ⟨_, rfl⟩
    have hcut4 : Calls Tryz.prog 50 #[.string ⟨t.toArray⟩, .string ⟨#[41]⟩] w4 fun e w' => e = .returned (.tuple #[.string ⟨t.toArray⟩, .string ⟨rest.toArray⟩, .bool false]) /\ Below w4.heap.size w4 w' := by rw [hrest]; exact hcut4
    clear hrest
    go_wp2_with fail
    refine hcut4.mono ?_; rintro e w5 ⟨rfl, hb5⟩
    have hwr5 := hwr4.call hb5
    have hwf5 := hwf4.call hb5
    have hK5 := hK4.grow hb5 (by omega) hK4.1.size
    have hb05 := hb4.trans (hb5.mono hb4.size)
    clear hcut4 b0 b1 b2 b3 s0 hwr4 hwf4 hK4
    have b0 := hwr5.cell 0
    have b1 := hwr5.cell 1
    have b2 := hwr5.thaw 0
    have b3 := hwr5.thaw 1
    simp only [List.getElem?_toArray, List.getElem?_cons_zero, List.getElem?_cons_succ] at b0 b1
    have hwr6 := hwr5.put 0 (.string ⟨rest.toArray⟩)
    simp only [List.setIfInBounds_toArray, List.set_cons_zero] at hwr6
    have hwf6 := hwf5.other (p := ⟨rb, 0, none⟩) hne (.string ⟨rest.toArray⟩)
    have hK6 := hK5.setCell 0 (.string ⟨rest.toArray⟩)
    have hb06 := hb05.setCell (p := ⟨rb, 0, none⟩) hrb0 (.string ⟨rest.toArray⟩)
    have hlf := fleaf_c t hitl (w5.setCell ⟨rb, 0, none⟩ (.string ⟨rest.toArray⟩)) (hE.below hb06)
    unfold LeafRet at hlf
    go_upto_region 8 with fail
    generalize w5.setCell ⟨rb, 0, none⟩ (.string ⟨rest.toArray⟩) = w6 at *
    clear b0 b1 b2 b3 hwr5 hwf5 hK5 hb5 hb4 hb05
    obtain ⟨LB, hLB⟩ : ∃ b, (FiS.leafS t).isSome = b := ⟨_, rfl⟩
    rw [hLB] at hlf
    clear hLB
    cases LB with
    | false =>
     go_wp2_with fail
     refine hlf.mono ?_; rintro e w7 ⟨v, rfl, ⟨y, s1, s2, n1, c1, n2, c2, rfl⟩, hall, hb7⟩
     have hwr7 := hwr6.call hb7
     have hwf7 := hwf6.call hb7
     have hK7 := hK6.grow hb7 (by omega) hK6.1.size
     have hs67 := hb7.size
     have hFB6 := hwf6.lt
     clear hlf hwr6 hwf6 hK6
     obtain ⟨v0, v1, v2, v3, v4, v5, v6⟩ := hwf7.seven
     obtain ⟨z0, z1, z2, z3, z4, z5, z6⟩ := hwf7.thaws
     have hwf8 := hwf7.put7 (.int .i64 y.kind) (.string ⟨y.attr.toArray⟩) (.string ⟨y.value.toArray⟩) (.string ⟨y.first.toArray⟩) (.string ⟨y.last.toArray⟩) (.slice s1 n1 c1) (.slice s2 n2 c2)
     have hwr8 := hwr7.other7 (g := w.heap.size) (fun e => hne e.symm) (.int .i64 y.kind) (.string ⟨y.attr.toArray⟩) (.string ⟨y.value.toArray⟩) (.string ⟨y.first.toArray⟩) (.string ⟨y.last.toArray⟩) (.slice s1 n1 c1) (.slice s2 n2 c2)
     have hK8 := ((((((hK7.far (g := w.heap.size) (Nat.le_refl _) (by omega) 0 (.int .i64 y.kind)).far (g := w.heap.size) (Nat.le_refl _) (by omega) 1 (.string ⟨y.attr.toArray⟩)).far (g := w.heap.size) (Nat.le_refl _) (by omega) 2 (.string ⟨y.value.toArray⟩)).far (g := w.heap.size) (Nat.le_refl _) (by omega) 3 (.string ⟨y.first.toArray⟩)).far (g := w.heap.size) (Nat.le_refl _) (by omega) 4 (.string ⟨y.last.toArray⟩)).far (g := w.heap.size) (Nat.le_refl _) (by omega) 5 (.slice s1 n1 c1)).far (g := w.heap.size) (Nat.le_refl _) (by omega) 6 (.slice s2 n2 c2)
     unfold sev at hwf8 hwr8
     clear hall hwr7 hwf7 hK7
     go_upto_region 9 with fail
     generalize ((((((((((((((w7).setCell ⟨w.heap.size, 0, none⟩ (.int .i64 y.kind))).setCell ⟨w.heap.size, 1, none⟩ (.string ⟨y.attr.toArray⟩))).setCell ⟨w.heap.size, 2, none⟩ (.string ⟨y.value.toArray⟩))).setCell ⟨w.heap.size, 3, none⟩ (.string ⟨y.first.toArray⟩))).setCell ⟨w.heap.size, 4, none⟩ (.string ⟨y.last.toArray⟩))).setCell ⟨w.heap.size, 5, none⟩ (.slice s1 n1 c1))).setCell ⟨w.heap.size, 6, none⟩ (.slice s2 n2 c2)) = w8 at *
     clear v0 v1 v2 v3 v4 v5 v6 z0 z1 z2 z3 z4 z5 z6
     obtain ⟨r0, r1, r2, r3, r4, r5, r6⟩ := hwf8.seven
     obtain ⟨t0, t1, t2, t3, t4, t5, t6⟩ := hwf8.thaws
     obtain ⟨e0, e1, e2, e3, e4, e5, e6⟩ := hwf8.sames
     go_wp2_with fail
     (try simp only [Exit.inBlock, Exit.then])
     refine bodyPost_ret (v := .tuple #[.agg #[.int .i64 y.kind, .string ⟨y.attr.toArray⟩, .string ⟨y.value.toArray⟩, .string ⟨y.first.toArray⟩, .string ⟨y.last.toArray⟩, .slice s1 n1 c1, .slice s2 n2 c2], .bool false]) ?_ rfl (ReadR.no HI2.out ⟨y, s1, s2, n1, c1, n2, c2, rfl⟩ hK8)
     rw [results_cell_tmp rfl]
     go_simp
    | true =>
     go_wp2_with fail
     refine hlf.mono ?_; rintro e w7 ⟨v, rfl, ⟨y, s1, s2, n1, c1, n2, c2, rfl⟩, hall, hb7⟩
     have hwr7 := hwr6.call hb7
     have hwf7 := hwf6.call hb7
     have hK7 := hK6.grow hb7 (by omega) hK6.1.size
     have hs67 := hb7.size
     have hFB6 := hwf6.lt
     clear hlf hwr6 hwf6 hK6
     obtain ⟨v0, v1, v2, v3, v4, v5, v6⟩ := hwf7.seven
     obtain ⟨z0, z1, z2, z3, z4, z5, z6⟩ := hwf7.thaws
     have hwf8 := hwf7.put7 (.int .i64 y.kind) (.string ⟨y.attr.toArray⟩) (.string ⟨y.value.toArray⟩) (.string ⟨y.first.toArray⟩) (.string ⟨y.last.toArray⟩) (.slice s1 n1 c1) (.slice s2 n2 c2)
     have hwr8 := hwr7.other7 (g := w.heap.size) (fun e => hne e.symm) (.int .i64 y.kind) (.string ⟨y.attr.toArray⟩) (.string ⟨y.value.toArray⟩) (.string ⟨y.first.toArray⟩) (.string ⟨y.last.toArray⟩) (.slice s1 n1 c1) (.slice s2 n2 c2)
     have hK8 := ((((((hK7.far (g := w.heap.size) (Nat.le_refl _) (by omega) 0 (.int .i64 y.kind)).far (g := w.heap.size) (Nat.le_refl _) (by omega) 1 (.string ⟨y.attr.toArray⟩)).far (g := w.heap.size) (Nat.le_refl _) (by omega) 2 (.string ⟨y.value.toArray⟩)).far (g := w.heap.size) (Nat.le_refl _) (by omega) 3 (.string ⟨y.first.toArray⟩)).far (g := w.heap.size) (Nat.le_refl _) (by omega) 4 (.string ⟨y.last.toArray⟩)).far (g := w.heap.size) (Nat.le_refl _) (by omega) 5 (.slice s1 n1 c1)).far (g := w.heap.size) (Nat.le_refl _) (by omega) 6 (.slice s2 n2 c2)
     unfold sev at hwf8 hwr8
     clear hall hwr7 hwf7 hK7
     go_upto_region 9 with fail
     generalize ((((((((((((((w7).setCell ⟨w.heap.size, 0, none⟩ (.int .i64 y.kind))).setCell ⟨w.heap.size, 1, none⟩ (.string ⟨y.attr.toArray⟩))).setCell ⟨w.heap.size, 2, none⟩ (.string ⟨y.value.toArray⟩))).setCell ⟨w.heap.size, 3, none⟩ (.string ⟨y.first.toArray⟩))).setCell ⟨w.heap.size, 4, none⟩ (.string ⟨y.last.toArray⟩))).setCell ⟨w.heap.size, 5, none⟩ (.slice s1 n1 c1))).setCell ⟨w.heap.size, 6, none⟩ (.slice s2 n2 c2)) = w8 at *
     clear v0 v1 v2 v3 v4 v5 v6 z0 z1 z2 z3 z4 z5 z6
     obtain ⟨r0, r1, r2, r3, r4, r5, r6⟩ := hwf8.seven
     obtain ⟨t0, t1, t2, t3, t4, t5, t6⟩ := hwf8.thaws
     obtain ⟨e0, e1, e2, e3, e4, e5, e6⟩ := hwf8.sames
     go_wp2_with fail
     (try simp only [Exit.inBlock, Exit.then])
     refine bodyPost_ret (v := .tuple #[.agg #[.int .i64 y.kind, .string ⟨y.attr.toArray⟩, .string ⟨y.value.toArray⟩, .string ⟨y.first.toArray⟩, .string ⟨y.last.toArray⟩, .slice s1 n1 c1, .slice s2 n2 c2], .bool false]) ?_ rfl (ReadR.no HI2.out ⟨y, s1, s2, n1, c1, n2, c2, rfl⟩ hK8)
     rw [results_cell_tmp rfl]
     go_simp
  | some k =>
   rw [hop] at hib
   have hib : ∀ W, Calls Tryz.prog 49 #[.string ⟨#[38, 124, 33]⟩, .int .u8 (c.toNat : Int)] W fun e w' => e = .returned (.int .i64 k) /\ W = w' := hib
   have hk3 := FiS.opK_three hop
   have hkz : decide (k < 0) = false := decide_eq_false (by omega)
   have HPS := hZ9 (HOP.out k hop)
   clear HOP HIT hop HCT HCL1 hk3
   have hwf4 := hwf3.put 0 (.int .i64 k)
   simp only [List.setIfInBounds_toArray, List.set_cons_zero] at hwf4
   have hwrX := hwr3.put 0 (.string ⟨r.toArray⟩)
   simp only [List.setIfInBounds_toArray, List.set_cons_zero] at hwrX
   clear hwrX
   have hwr4 := hwr3.other (p := ⟨w.heap.size, 0, none⟩) (fun e => hne e.symm) (.int .i64 k)
   have hK4 := hK3.far (g := w.heap.size) (Nat.le_refl _) (by omega) 0 (.int .i64 k)
   go_wp2_with fail
   refine (hib _).mono ?_; rintro e w9 ⟨rfl, rfl⟩
   go_upto_region 5 with fail
   generalize w3.setCell ⟨w.heap.size, 0, none⟩ (.int .i64 k) = w4 at *
   clear hib s0 u0 b0 b1 b2 b3 hwf3 hwr3 hK3 hemp hq h0
   have b0 := hwr4.cell 0
   have b1 := hwr4.cell 1
   have b2 := hwr4.thaw 0
   have b3 := hwr4.thaw 1
   simp only [List.getElem?_toArray, List.getElem?_cons_zero, List.getElem?_cons_succ] at b0 b1
   have hwr5 := hwr4.put 0 (.string ⟨r.toArray⟩)
   simp only [List.setIfInBounds_toArray, List.set_cons_zero] at hwr5
   have s0 := hwf4.cell 0
   simp only [List.getElem?_toArray, List.getElem?_cons_zero] at s0
   have hwf5 := hwf4.other (p := ⟨rb, 0, none⟩) hne (.string ⟨r.toArray⟩)
   have hK5 := hK4.setCell 0 (.string ⟨r.toArray⟩)
   go_upto_block 0 with fail
   generalize w4.setCell ⟨rb, 0, none⟩ (.string ⟨r.toArray⟩) = w5 at *
   clear s0 b0 b1 b2 b3 hwr4 hwf4 hK4 h01 hx
   have hO0 := OwnG.empty (fiG m) 33 (fun g => w.heap.size + 1 <= g) w5 (w.heap.size + 1)
   obtain ⟨i0, z, hi, hz, hsz, hby, hzc⟩ := infoFi_parts
   have HI := hZ9 hi
   clear hi
   go_wp2_with fail
   go_loopw [5] (fun ob wr => ∃ (q : List Fi) (m' : Nat) (t' : List UInt8) (vq : Value), ob = .bool false /\ Hid (FiS.partsS m d r = (FiS.partsS m' d t').map (fun z => (q ++ z.1, z.2))) /\ q.length + m' <= m /\ t'.length <= 16384 /\ Whole wr rb 72 #[.string ⟨t'.toArray⟩, .int .i64 (m' : Int)] /\ Whole wr w.heap.size 33 #[.int .i64 k, .string ⟨#[]⟩, .string ⟨#[]⟩, .string ⟨#[]⟩, .string ⟨#[]⟩, .slice none 0 0, vq] /\ OwnG (fiG m) 33 (fun g => w.heap.size + 1 <= g) wr (w.heap.size + 1) vq q /\ Kept2 w.heap.size rb w wr) (fun _ wr => ((wr.cell? ⟨rb, 1, none⟩).map (fun v => (intOf v).toNat)).getD 0)
   case atStart => exact ⟨[], m, r, .slice none 0 0, rfl, hZ9 (by simp), by simp, by omega, hwr5, hwf5, hO0, hK5⟩
   case round =>
    obtain ⟨q, m', t', vq, rfl, HPQ, hqm, htl, hwr, hwf, hown, hK⟩ := hrel
    clear hO0 hwr5 hwf5 hK5
    obtain ⟨va, vc, rfl⟩ := hown.form
    by_cases h41 : t'.head? = some 41
    case pos =>
     obtain ⟨rest, rfl⟩ : ∃ x, t' = 41 :: x := by
      match t', h41 with
      | b :: x, hh => exact ⟨x, by simpa using hh⟩
     have hsk := flskip_yes rb 41 rest _ wr hwr
     have HN : Hid (FiS.readS (m + 1) d (40 :: c :: r) = some (.mk k [] [] [] [] [] q, rest, m')) := hZ9 (by
      rw [HPS.out, HPQ.out, FiS.partsS_end]
      simp)
     have hwr6 := hwr.put 0 (.string ⟨rest.toArray⟩)
     simp only [List.setIfInBounds_toArray, List.set_cons_zero] at hwr6
     have hwf6 := hwf.other (p := ⟨rb, 0, none⟩) hne (.string ⟨rest.toArray⟩)
     have hK6 := hK.setCell 0 (.string ⟨rest.toArray⟩)
     have hown6 := hown.kept ((Kept2.refl wr.heap.size rb wr).setCell 0 (.string ⟨rest.toArray⟩)) (Nat.le_refl _) (by omega)
     clear IH HPS HPQ hwr hwf hown hK h41
     go_wp2_with fail
     refine hsk.mono ?_; rintro e w9 ⟨rfl, rfl⟩
     clear hsk
     go_upto_region 16 with fail
     generalize wr.setCell ⟨rb, 0, none⟩ (.string ⟨rest.toArray⟩) = w6 at *
     have hfv : FiV (m + 1) (fun g => w.heap.size <= g) w6 (.agg #[.int .i64 k, .string ⟨#[]⟩, .string ⟨#[]⟩, .string ⟨#[]⟩, .string ⟨#[]⟩, .slice none 0 0, .slice va q.length vc]) (.mk k [] [] [] [] [] q) := ⟨_, _, rfl, SliceP.nil none 0, (hown6.fis).keep (Nat.le_refl _) (fun _ _ _ => rfl) (fun g _ h => by omega)⟩
     obtain ⟨r0, r1, r2, r3, r4, r5, r6⟩ := hwf6.seven
     obtain ⟨t0, t1, t2, t3, t4, t5, t6⟩ := hwf6.thaws
     obtain ⟨e0, e1, e2, e3, e4, e5, e6⟩ := hwf6.sames
     go_wp2_with fail
     (try simp only [Exit.inBlock, Exit.then])
     refine bodyPost_ret (v := .tuple #[.agg #[.int .i64 k, .string ⟨#[]⟩, .string ⟨#[]⟩, .string ⟨#[]⟩, .string ⟨#[]⟩, .slice none 0 0, .slice va q.length vc], .bool true]) ?_ rfl (ReadR.yes HN.out hfv hwr6 hK6)
     rw [results_cell_tmp rfl]
     go_simp
    have hsk := flskip_no rb 41 t' _ wr hwr h41
    have hbw := hb0.trans (hK.1.mono hrb0)
    have hrd := IH m' (by omega) (d + 1) (di + 1) t' rb w0 wr hwr htl (by have := HDI.out; omega) (by have := HDI.out; omega) (by omega) hE hrb0 hbw
    unfold ReadR at hrd
    have HST := hZ9 (FiS.partsS_step (n := m') (d := d) h41)
    have hFBlt := hwf.lt
    clear IH h41 hbw
    cases hrs : FiS.readS m' (d + 1) t' with
    | none =>
     rw [hrs] at hrd
     have HN : Hid (FiS.readS (m + 1) d (40 :: c :: r) = none) := hZ9 (by rw [HPS.out, HPQ.out, HST.out, hrs]; rfl)
     clear hrs HPS HPQ HST
     go_wp2_with fail
     refine hsk.mono ?_; rintro e w9 ⟨rfl, rfl⟩
     clear hsk
     go_wp2_with fail
     refine hrd.mono ?_; rintro e w6 ⟨⟨v, rfl, ⟨y, s1, s2, n1, c1, n2, c2, rfl⟩, _⟩, hk6⟩
     have hwf6 := hk6.whole hwf hFBlt hne
     have hK6 := hK.trans (hk6.weak hK.1.size)
     have hwf7 := hwf6.call (grow1 w6 (.cells #[.int .i64 y.kind, .string ⟨y.attr.toArray⟩, .string ⟨y.value.toArray⟩, .string ⟨y.first.toArray⟩, .string ⟨y.last.toArray⟩, .slice s1 n1 c1, .slice s2 n2 c2] 33))
     have hK7 := hK6.alloc (by omega) hK6.1.size (.cells #[.int .i64 y.kind, .string ⟨y.attr.toArray⟩, .string ⟨y.value.toArray⟩, .string ⟨y.first.toArray⟩, .string ⟨y.last.toArray⟩, .slice s1 n1 c1, .slice s2 n2 c2] 33)
     clear hrd hwf hwr hown hK hk6 hwf6 hK6
     go_upto_region 13 with fail
     generalize w6.alloc (.cells #[.int .i64 y.kind, .string ⟨y.attr.toArray⟩, .string ⟨y.value.toArray⟩, .string ⟨y.first.toArray⟩, .string ⟨y.last.toArray⟩, .slice s1 n1 c1, .slice s2 n2 c2] 33) = w7 at *
     obtain ⟨r0, r1, r2, r3, r4, r5, r6⟩ := hwf7.seven
     obtain ⟨t0, t1, t2, t3, t4, t5, t6⟩ := hwf7.thaws
     obtain ⟨e0, e1, e2, e3, e4, e5, e6⟩ := hwf7.sames
     go_wp2_with fail
     (try simp only [Exit.inBlock, Exit.then])
     refine bodyPost_ret (v := .tuple #[.agg #[.int .i64 k, .string ⟨#[]⟩, .string ⟨#[]⟩, .string ⟨#[]⟩, .string ⟨#[]⟩, .slice none 0 0, .slice va q.length vc], .bool false]) ?_ rfl (ReadR.no HN.out ⟨.mk k [] [] [] [] [] [], _, _, _, _, _, _, rfl⟩ hK7)
     rw [results_cell_tmp rfl]
     go_simp
    | some xyz =>
     obtain ⟨x, t2, m2⟩ := xyz
     rw [hrs] at hrd
     have hless := FiS.readS_less hrs
     have hlen2 := FiS.readS_len hrs
     have HN : Hid (FiS.partsS m d r = (FiS.partsS m2 d t2).map (fun z => ((q ++ [x]) ++ z.1, z.2))) := hZ9 (by
      rw [HPQ.out, HST.out, hrs]
      simp only [Option.map_map]
      congr 1
      funext z
      simp)
     clear hrs HPQ HST HDI HPS
     go_wp2_with fail
     refine hsk.mono ?_; rintro e w9 ⟨rfl, rfl⟩
     clear hsk
     go_wp2_with fail
     refine hrd.mono ?_; rintro e w6 ⟨⟨v, rfl, _, hall⟩, hk6⟩
     obtain ⟨hfv, hwr6⟩ := hall x t2 m2 rfl
     clear hall
     have hwf6 := hk6.whole hwf hFBlt hne
     have hK6 := hK.trans (hk6.weak hK.1.size)
     have hown6 := hown.kept hk6 (Nat.le_refl _) (by omega)
     have hsz6 := hk6.1.size
     have c0 := hwr.cell 1
     obtain ⟨a5, c5, a6, c6, rfl, hss, hc6, hps⟩ := FiV.partsO hfv
     have hg7 := grow1 w6 (.cells #[.int .i64 x.kind, .string ⟨x.attr.toArray⟩, .string ⟨x.value.toArray⟩, .string ⟨x.first.toArray⟩, .string ⟨x.last.toArray⟩, .slice a5 x.any.length c5, .slice a6 x.parts.length c6] 33)
     have hg8 := grow1 (w6.alloc (.cells #[.int .i64 x.kind, .string ⟨x.attr.toArray⟩, .string ⟨x.value.toArray⟩, .string ⟨x.first.toArray⟩, .string ⟨x.last.toArray⟩, .slice a5 x.any.length c5, .slice a6 x.parts.length c6] 33)) (.cells #[.int .i64 x.kind, .string ⟨x.attr.toArray⟩, .string ⟨x.value.toArray⟩, .string ⟨x.first.toArray⟩, .string ⟨x.last.toArray⟩, .slice a5 x.any.length c5, .slice a6 x.parts.length c6] 33)
     have hbk : ∀ g, (Value.slice va q.length vc).ownBlock = some g -> g < wr.heap.size := fun g h => (hown.block h).2
     have hss8 := StrsP.keep (ok' := fun g => w.heap.size + 1 <= g /\ (Value.slice va q.length vc).ownBlock ≠ some g) ((hss.call hg7).call hg8) (Nat.le_refl _) (fun _ _ _ => rfl) (fun g _ h => ⟨by omega, fun e => by have := hbk g e; omega⟩)
     have hps8 := ((hps.mono (show m' <= m by omega)).call hg7 |>.call hg8).keep (ok' := fun g => w.heap.size + 1 <= g /\ (Value.slice va q.length vc).ownBlock ≠ some g) (Nat.le_refl _) (fun _ _ _ => rfl) (fun g _ h => ⟨by omega, fun e => by have := hbk g e; omega⟩)
     have e8 : (w6.alloc (.cells #[.int .i64 x.kind, .string ⟨x.attr.toArray⟩, .string ⟨x.value.toArray⟩, .string ⟨x.first.toArray⟩, .string ⟨x.last.toArray⟩, .slice a5 x.any.length c5, .slice a6 x.parts.length c6] 33)).heap.size = w6.heap.size + 1 := by simp
     have hwB : Whole ((w6.alloc (.cells #[.int .i64 x.kind, .string ⟨x.attr.toArray⟩, .string ⟨x.value.toArray⟩, .string ⟨x.first.toArray⟩, .string ⟨x.last.toArray⟩, .slice a5 x.any.length c5, .slice a6 x.parts.length c6] 33)).alloc (.cells #[.int .i64 x.kind, .string ⟨x.attr.toArray⟩, .string ⟨x.value.toArray⟩, .string ⟨x.first.toArray⟩, .string ⟨x.last.toArray⟩, .slice a5 x.any.length c5, .slice a6 x.parts.length c6] 33)) (w6.heap.size + 1) 33 #[.int .i64 x.kind, .string ⟨x.attr.toArray⟩, .string ⟨x.value.toArray⟩, .string ⟨x.first.toArray⟩, .string ⟨x.last.toArray⟩, .slice a5 x.any.length c5, .slice a6 x.parts.length c6] := by
      have := Whole.made (w6.alloc (.cells #[.int .i64 x.kind, .string ⟨x.attr.toArray⟩, .string ⟨x.value.toArray⟩, .string ⟨x.first.toArray⟩, .string ⟨x.last.toArray⟩, .slice a5 x.any.length c5, .slice a6 x.parts.length c6] 33)) 33 #[.int .i64 x.kind, .string ⟨x.attr.toArray⟩, .string ⟨x.value.toArray⟩, .string ⟨x.first.toArray⟩, .string ⟨x.last.toArray⟩, .slice a5 x.any.length c5, .slice a6 x.parts.length c6]
      rwa [e8] at this
     clear e8
     have hrow := RowG.oneFi (n := m) (rok := fun _ => True) (x := x) hwB trivial hss8 hps8
     have hown8 := (hown6.call hg7).call hg8
     have hwf7 := hwf6.call hg7
     have hwf8 := hwf7.call hg8
     have hwr8 := (hwr6.call hg7).call hg8
     have hwp7 := Whole.made w6 33 #[.int .i64 x.kind, .string ⟨x.attr.toArray⟩, .string ⟨x.value.toArray⟩, .string ⟨x.first.toArray⟩, .string ⟨x.last.toArray⟩, .slice a5 x.any.length c5, .slice a6 x.parts.length c6]
     have hwp8 := hwp7.call hg8
     have hK8 := (hK6.alloc (by omega) hK6.1.size (.cells #[.int .i64 x.kind, .string ⟨x.attr.toArray⟩, .string ⟨x.value.toArray⟩, .string ⟨x.first.toArray⟩, .string ⟨x.last.toArray⟩, .slice a5 x.any.length c5, .slice a6 x.parts.length c6] 33)).alloc (by omega) (by have := hK6.1.size; simp; omega) (.cells #[.int .i64 x.kind, .string ⟨x.attr.toArray⟩, .string ⟨x.value.toArray⟩, .string ⟨x.first.toArray⟩, .string ⟨x.last.toArray⟩, .slice a5 x.any.length c5, .slice a6 x.parts.length c6] 33)
     have hs8 : w.heap.size + 1 <= ((w6.alloc (.cells #[.int .i64 x.kind, .string ⟨x.attr.toArray⟩, .string ⟨x.value.toArray⟩, .string ⟨x.first.toArray⟩, .string ⟨x.last.toArray⟩, .slice a5 x.any.length c5, .slice a6 x.parts.length c6] 33)).alloc (.cells #[.int .i64 x.kind, .string ⟨x.attr.toArray⟩, .string ⟨x.value.toArray⟩, .string ⟨x.first.toArray⟩, .string ⟨x.last.toArray⟩, .slice a5 x.any.length c5, .slice a6 x.parts.length c6] 33)).heap.size := by have := hK6.1.size; simp; omega
     have hlq : q.length + ([x] : List Fi).length <= 1000000000 := by simp; omega
     clear hrd hwf hwr hown hK hk6 hwf6 hK6 hown6 hwr6 hss hps hfv hss8 hps8 hbk
     obtain ⟨f0, f1, f2, f3, f4, f5, f6⟩ := hwf7.seven
     obtain ⟨k0, k1, k2, k3, k4, k5, k6⟩ := hwf8.seven
     obtain ⟨p0, p1, p2, p3, p4, p5, p6⟩ := hwp7.seven
     obtain ⟨o0, o1, o2, o3, o4, o5, o6⟩ := hwp8.seven
     go_wp2_with (at_builtin; go_loud (refine push_g (fiG m) 33 31 Tryz.underlying31 HI.out hz (by rw [hsz]; rfl) (by rw [hby]; decide) (by rw [hzc]; rfl) (by rfl) _ _ (by rfl) (fun g => w.heap.size + 1 <= g) (w.heap.size + 1) _ q (by rfl) hown8 _ [x] (by rfl) hrow hlq hs8 ?_))
     intro v2 w9 hown9 hb9 hgr9 hat9
     clear hgr9 hat9 hrow hown8
     obtain ⟨va2, vc2, rfl⟩ := hown9.form
     have hqn : (q ++ [x]).length + m2 <= m := by rw [List.length_append, List.length_singleton]; omega
     obtain ⟨QN, hQN⟩ : ∃ k, (q ++ [x]).length = k := ⟨_, rfl⟩
     rw [hQN] at hown9
     try rw [hQN]
     have hwf9 := hwf8.below hb9 (by omega)
     have hwr9 := hwr8.below hb9 (by omega)
     have g6 := hwf9.cell 6
     have g7 := hwf9.thaw 6
     simp only [List.getElem?_toArray, List.getElem?_cons_zero, List.getElem?_cons_succ] at g6
     have hwf10 := hwf9.put 6 (.slice va2 QN vc2)
     simp only [List.setIfInBounds_toArray, List.set_cons_zero, List.set_cons_succ] at hwf10
     have hwr10 := hwr9.other (p := ⟨w.heap.size, 6, none⟩) (fun e => hne e.symm) (.slice va2 QN vc2)
     have hown10 := hown9.kept ((Kept2.refl w9.heap.size w.heap.size w9).setCell 6 (.slice va2 QN vc2)) (Nat.le_refl _) (by omega)
     have hK10 := (hK8.trans (Kept2.of_below (hb9.mono (Nat.le_succ _)) (by omega))).far (g := w.heap.size) (Nat.le_refl _) (by omega) 6 (.slice va2 QN vc2)
     have c1 := hwr10.cell 1
     clear f0 f1 f2 f3 f4 f5 f6 k0 k1 k2 k3 k4 k5 k6 p0 p1 p2 p3 p4 p5 p6 o0 o1 o2 o3 o4 o5 o6
     clear hwf9 hwr9 hwf8 hwr8 hwp7 hwp8 hwf7 hown9 hK8 hg7 hg8
     go_wp2_with fail
     go_roundw
     case rel => exact ⟨q ++ [x], m2, t2, _, rfl, HN, hqn, by omega, hwr10, hwf10, hown10, hK10⟩
     case measure =>
      simp only [c1, c0, List.getElem?_toArray, List.getElem?_cons_succ, List.getElem?_cons_zero, Option.map_some, Option.getD_some, intOf, Int.toNat_natCast]
      exact hless
end Go.Proofs.YtjmfknfponjgkaaGreatDoor
