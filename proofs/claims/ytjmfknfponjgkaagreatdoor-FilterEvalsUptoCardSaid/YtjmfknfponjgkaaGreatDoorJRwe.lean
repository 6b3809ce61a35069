/- A list of pairs that comes in, opened. Conditions: as stated. -/
import Derived.Deep.Slices
import Derived.Carry
import Derived.ReadAgain
import Derived.Lib.LaidU8
import Derived.Lib.SmallJoins
import Derived.Test.YtjmfknfponjgkaaGreatDoorJRow
import Derived.Test.YtjmfknfponjgkaaGreatDoorJAva
import Derived.Test.YtjmfknfponjgkaaGreatDoorJFia
set_option maxRecDepth 100000
namespace Go.Proofs.YtjmfknfponjgkaaGreatDoor
section
open Go.ChangeShapes Go.WideShapes Go.ChangeAt Go.RowKit Go.Deep
section
variable {H : Type} {enc : TypeId × Value -> H}
theorem slice_of_ok {w : World} {r : Reach} {b0 : Nat} {t e : TypeId} {v : Value} (ht : Tryz.prog.underlying t = some (.slice e)) (h : Value.okWide Tryz.prog w r b0 t v) :
  v = .slice none 0 0 \/ ∃ g o n c, v = .slice (some ⟨g, o, none⟩) n c := by
 simp only [Value.okWide, ht, Cell.okWide] at h
 cases v with
 | slice a n c =>
  cases a with
  | none =>
   match n, c, h with
   | 0, 0, _ => exact .inl rfl
   | n + 1, c, h => simp [Cell.ok, ht] at h
   | 0, c + 1, h => simp [Cell.ok, ht] at h
  | some a =>
   simp only [Cell.ok, ht] at h
   have hs := h.2.2.2.1
   obtain ⟨g, o, s⟩ := a
   simp only at hs
   subst hs
   exact .inr ⟨g, o, n, c, rfl⟩
 | _ => simp [Cell.ok, ht] at h
end
end
section
open Go.ChangeShapes Go.WideShapes Go.ChangeAt Go.RowKit Go.Deep Go.Joins
section
variable {H : Type} {enc : TypeId × Value -> H}
theorem bulk_mem {d : DataW H} : ∀ {l : List (DataW H)}, d ∈ l -> Rows.uptoBulk d <= Rows.uptoBulkAll l
 | [], h => by cases h
 | x :: r, h => by
  unfold Rows.uptoBulkAll
  rcases List.mem_cons.1 h with rfl | h
  · omega
  · have := bulk_mem h; omega
theorem bulk_pos (d : DataW H) : 1 <= Rows.uptoBulk d := by unfold Rows.uptoBulk; split <;> omega
theorem bulk_len : ∀ (l : List (DataW H)), l.length <= Rows.uptoBulkAll l
 | [] => Nat.zero_le _
 | x :: r => by
  unfold Rows.uptoBulkAll
  have h1 := bulk_pos x
  have h2 := bulk_len r
  rw [List.length_cons]; omega
theorem bulk_slice (A B : List (DataW H)) : Rows.uptoBulkAll A <= Rows.uptoBulk (.slice A B) := by unfold Rows.uptoBulk; omega
theorem bulk_agg (A : List (DataW H)) : Rows.uptoBulkAll A <= Rows.uptoBulk (.agg A) := by unfold Rows.uptoBulk; omega
theorem bulk_str {l : List UInt8} {N : Nat} (h : Rows.uptoBulk (.lit (.string l) : DataW H) <= N) : l.length <= N := by unfold Rows.uptoBulk at h; omega
theorem str_list2 (s : ByteArray) : (Value.string s) = strV s.data.toList := by cases s; simp [strV]
theorem add_add (g o i j : Nat) : ((⟨g, o, none⟩ : Addr).add i).add j = ⟨g, o + i + j, none⟩ := by unfold Addr.add; split <;> split <;> simp_all
theorem sum_bulk {α : Type} {m : α -> Nat} {S : Nat -> α} {D : Nat -> DataW H} : ∀ l : List Nat, (∀ i ∈ l, m (S i) <= Rows.uptoBulk (D i)) -> EnS.sumBy m (l.map S) <= Rows.uptoBulkAll (l.map D)
 | [], _ => Nat.zero_le _
 | i :: l, h => by
  show m (S i) + EnS.sumBy m (l.map S) <= Rows.uptoBulkAll (D i :: l.map D)
  unfold Rows.uptoBulkAll
  have h1 := h i (List.mem_cons_self ..)
  have h2 := sum_bulk (m := m) (S := S) (D := D) l (fun j hj => h j (List.mem_cons_of_mem _ hj))
  omega
theorem bulk_slice1 (A B : List (DataW H)) : Rows.uptoBulkAll A + 1 <= Rows.uptoBulk (.slice A B) := by unfold Rows.uptoBulk; omega
theorem open_sliceP {α : Type} {w : World} {base : Nat} {held : Bool} {sp : Nat -> Bool} {t e : TypeId} {k fuel : Nat} {v : Value} {d : DataW H} {ps : List MemPlace} {N : Nat}
  (ht : Tryz.prog.underlying t = some (.slice e)) (hk : Tryz.prog.cellsOf e = k) (hk0 : 0 < k) (El : World -> Nat -> Nat -> α -> Prop) (G : α -> Prop) (m : α -> Nat)
  (hf : DataW.trod enc Tryz.prog w base sp held fuel t [v] = some (d, ps)) (hb : Rows.uptoBulk d <= N)
  (each : ∀ (g o : Nat) (cs : List Value) (fu : Nat) (D : DataW H) (Pl : List MemPlace), (∀ j, j < k -> w.cell? ⟨g, o + j, none⟩ = cs[j]?) -> cs.length = k -> DataW.trod enc Tryz.prog w base sp held fu e cs = some (D, Pl) -> Rows.uptoBulk D <= N -> ∃ x, El w g o x /\ G x /\ m x <= Rows.uptoBulk D) :
  ∃ xs : List α, SliceP k El (fun _ => True) w v xs /\ xs.length <= N /\ (∀ x ∈ xs, G x) /\ EnS.sumBy m xs + 1 <= Rows.uptoBulk d := by
 rcases open_slice ht hf with ⟨h0, hd0⟩ | ⟨a, n, c, mm, fu, D, Pl, hcs, hbs, hlc, hcm, hm, hx, hel⟩
 · simp only [List.cons.injEq, and_true] at h0
   subst h0
   exact ⟨[], SliceP.nil _ _, Nat.zero_le _, (fun x hx => (by cases hx)), bulk_pos d⟩
 simp only [List.cons.injEq, and_true] at hcs
 subst hcs
 have hd1 := congrArg Prod.fst hx
 simp only at hd1
 rw [hd1] at hb
 have hb1 := Nat.le_trans (bulk_slice _ _) hb
 have hnm : n <= mm := by rw [hm]; split <;> omega
 rw [hk] at hel
 obtain ⟨g, o, s⟩ := a
 rcases Nat.eq_zero_or_pos n with h0 | hpos
 · subst h0
   exact ⟨[], SliceP.nil _ _, Nat.zero_le _, (fun x hx => (by cases hx)), bulk_pos d⟩
 have hs : s = none := by
  obtain ⟨cs, h1, h2⟩ := hel 0 (by omega)
  obtain ⟨_, hlen, hc⟩ := World.cells?_some h1
  have c0 := hc 0 hk0
  rw [Nat.zero_mul] at c0
  have hlt : 0 < cs.length := by omega
  rw [List.getElem?_eq_getElem hlt] at c0
  have e1 : ((⟨g, o, s⟩ : Addr).add 0).add 0 = ⟨g, o, s⟩ := by unfold Addr.add; simp
  rw [e1] at c0
  exact cell_spot c0
 subst hs
 have each' : ∀ i, i < n -> ∃ x : α, El w g (o + i * k) x /\ G x /\ m x <= Rows.uptoBulk (D i) := fun i hi => by
  obtain ⟨cs, h1, h2⟩ := hel i (by omega)
  obtain ⟨_, hlen, hc⟩ := World.cells?_some h1
  refine each g (o + i * k) cs fu (D i) (Pl i) (fun j hj => ?_) hlen h2 ?_
  · have := hc j hj
    rw [add_add] at this
    exact this
  · exact Nat.le_trans (bulk_mem (List.mem_map.2 ⟨i, List.mem_range.2 hi, rfl⟩)) hb1
 have hlen2 : n <= N := by
  have := bulk_len ((List.range n).map D)
  rw [List.length_map, List.length_range] at this
  omega
 have hgs : g < w.heap.size := by
  obtain ⟨cs, h1, h2⟩ := hel 0 (by omega)
  obtain ⟨_, hlen, hc⟩ := World.cells?_some h1
  have c0 := hc 0 hk0
  have hlt : 0 < cs.length := by omega
  rw [List.getElem?_eq_getElem hlt, add_add] at c0
  exact cell_lt c0
 haveI : Inhabited α := ⟨(each' 0 hpos).choose⟩
 obtain ⟨S, hS⟩ := choose_lt each'
 refine ⟨(List.range n).map S, ⟨some ⟨g, o, none⟩, c, by simp, by simp; omega, .inr ⟨g, o, rfl, hgs, trivial, fun j q hj => ?_⟩⟩, by simpa using hlen2, fun q hq => ?_, ?_⟩
 · rw [List.getElem?_map] at hj
   cases hr : (List.range n)[j]? with
   | none => rw [hr] at hj; cases hj
   | some x =>
    rw [hr] at hj
    have hjn := (List.getElem?_eq_some_iff.1 hr).1
    have hq := (List.getElem?_eq_some_iff.1 hr).2
    rw [List.getElem_range] at hq
    simp only [List.length_range] at hjn
    have hj := Option.some.inj hj
    subst hq; subst hj
    exact (hS j hjn).1
 · obtain ⟨i, hi, rfl⟩ := List.mem_map.1 hq
   exact (hS i (List.mem_range.1 hi)).2.1
 · have h1 := sum_bulk (m := m) (S := S) (D := D) (List.range n) (fun i hi => (hS i (List.mem_range.1 hi)).2.2)
   have h2 := bulk_slice1 ((List.range n).map D) ((List.range (mm - n)).map fun j => D (n + j))
   rw [hd1]
   omega
theorem open_strs {w : World} {base : Nat} {held : Bool} {sp : Nat -> Bool} {fuel : Nat} {v : Value} {d : DataW H} {ps : List MemPlace} {N : Nat}
  (hf : DataW.trod enc Tryz.prog w base sp held fuel 22 [v] = some (d, ps)) (hb : Rows.uptoBulk d <= N) :
  ∃ xs : List (List UInt8), StrsP (fun _ => True) w v xs /\ xs.length <= N /\ (∀ x ∈ xs, x.length <= N) /\ EnS.sumBy (fun v => 1 + EnS.cV v) xs + 1 <= Rows.uptoBulk d := by
 refine open_sliceP Tryz.underlying22 (by kernel_rfl) (by decide) StrAt (fun x => x.length <= N) (fun v => 1 + EnS.cV v) hf hb (fun g o cs fu D Pl hc hlen ht hD => ?_)
 match cs, hlen with
 | [x], _ =>
  obtain ⟨s, e, k, _⟩ := DataW.trod_string Tryz.underlying9 ht
  simp only [List.cons.injEq, and_true] at e
  have c0 := hc 0 (by decide)
  simp only [Nat.add_zero, List.getElem?_cons_zero] at c0
  subst e
  rw [str_list2] at c0
  have k1 : D = .lit (.string s.data.toList) := by first | exact k | exact congrArg Prod.fst k | simpa using k
  rw [k1] at hD ⊢
  refine ⟨s.data.toList, c0, bulk_str hD, ?_⟩
  unfold Rows.uptoBulk EnS.cV
  have := Nat.div_le_self s.data.toList.length 100
  omega
def AttrOf (N : Nat) (x : EnS.At) : Prop := x.typ.length <= N /\ x.vals.length <= N /\ ∀ v ∈ x.vals, v.length <= N
theorem open_attrs_t {w : World} {base : Nat} {held : Bool} {sp : Nat -> Bool} {fuel : Nat} {v : Value} {d : DataW H} {ps : List MemPlace} {N : Nat}
  (hf : DataW.trod enc Tryz.prog w base sp held fuel 26 [v] = some (d, ps)) (hb : Rows.uptoBulk d <= N) :
  ∃ xs : List EnS.At, AttrsIn w v xs /\ xs.length <= N /\ (∀ x ∈ xs, AttrOf N x) /\ EnS.sumBy EnS.cA xs + 1 <= Rows.uptoBulk d := by
 have hcs : Tryz.prog.cellsOf 9 = 1 := by kernel_rfl
 have hcl : Tryz.prog.cellsOf 22 = 1 := by kernel_rfl
 refine open_sliceP Tryz.underlying26 (by kernel_rfl) (by decide) (AttrAt (fun _ => True)) (AttrOf N) EnS.cA hf hb (fun g o cs fu D Pl hc hlen ht hD => ?_)
 match cs, hlen with
 | [x, y], _ =>
  obtain ⟨y0, y1, nn, e, _, t0, t1⟩ := trod_struct2 Tryz.underlying39 ht
  simp only [hcs, hcl, List.drop_zero, List.take_succ_cons, List.take_zero, List.drop_succ_cons] at t0 t1
  have e1 := congrArg Prod.fst e
  simp only at e1
  rw [e1] at hD
  have hD2 := Nat.le_trans (bulk_agg _) hD
  obtain ⟨s, es, k, _⟩ := DataW.trod_string Tryz.underlying9 t0
  simp only [List.cons.injEq, and_true] at es
  subst es
  obtain ⟨xs, h1, h2, h3, h5⟩ := open_strs (N := N) (d := y1.1) (ps := y1.2) t1 (Nat.le_trans (bulk_mem (by simp)) hD2)
  have c0 := hc 0 (by decide)
  have c1 := hc 1 (by decide)
  simp only [Nat.add_zero, List.getElem?_cons_zero, List.getElem?_cons_succ] at c0 c1
  rw [str_list2] at c0
  have k1 : y0.1 = .lit (.string s.data.toList) := by first | exact k | exact congrArg Prod.fst k | simp [k]
  have h4 := Nat.le_trans (bulk_mem (d := y0.1) (by simp)) hD2
  rw [k1] at h4
  refine ⟨⟨s.data.toList, xs⟩, ⟨c0, y, c1, h1⟩, ⟨bulk_str h4, h2, h3⟩, ?_⟩
  rw [e1, k1]
  show 1 + xs.length + EnS.sumBy EnS.cV xs <= _
  rw [EnS.sumBy_one] at h5
  unfold Rows.uptoBulk Rows.uptoBulkAll Rows.uptoBulkAll Rows.uptoBulkAll
  have := bulk_pos (.lit (.string s.data.toList) : DataW H)
  omega
theorem open_attrs {w : World} {base : Nat} {held : Bool} {r : Reach} {b0 : Nat} {v : Value} {d : DataW H} {ps : List MemPlace} {sp : Nat -> Bool} {N : Nat}
  (hval : Value.okWide Tryz.prog w r b0 26 v) (hd : DataW.Trod enc Tryz.prog w base sp held 26 v d ps) (hb : Rows.uptoBulk d <= N) :
  ∃ xs : List EnS.At, AttrsIn w v xs /\ xs.length <= N /\ (∀ x ∈ xs, AttrOf N x) /\ EnS.sumBy EnS.cA xs + 1 <= Rows.uptoBulk d := by
 obtain ⟨fuel, hf⟩ := hd
 rcases slice_of_ok Tryz.underlying26 hval with rfl | ⟨g, o, n, c, rfl⟩
 · exact ⟨[], SliceP.nil _ _, Nat.zero_le _, (fun x hx => (by cases hx)), bulk_pos d⟩
 · exact open_attrs_t (by simpa [Value.cells] using hf) hb
end
end
section
open Go.ChangeShapes Go.WideShapes Go.ChangeAt Go.RowKit Go.Deep Go.Joins
open FiS (Fi)
section
variable {H : Type} {enc : TypeId × Value -> H}
theorem open_sliceD {α : Type} {w : World} {base : Nat} {held : Bool} {sp : Nat -> Bool} {t e : TypeId} {k fuel : Nat} {v : Value} {d : DataW H} {ps : List MemPlace}
  (ht : Tryz.prog.underlying t = some (.slice e)) (hk : Tryz.prog.cellsOf e = k) (hk0 : 0 < k) (El : World -> Nat -> Nat -> α -> Prop)
  (hf : DataW.trod enc Tryz.prog w base sp held fuel t [v] = some (d, ps))
  (each : ∀ (g o : Nat) (cs : List Value) (fu : Nat) (D : DataW H) (Pl : List MemPlace), (∀ j, j < k -> w.cell? ⟨g, o + j, none⟩ = cs[j]?) -> cs.length = k -> DataW.trod enc Tryz.prog w base sp held fu e cs = some (D, Pl) -> SizeOf.sizeOf D < SizeOf.sizeOf d -> ∃ x, El w g o x) :
  ∃ xs : List α, SliceP k El (fun _ => True) w v xs := by
 rcases open_slice ht hf with ⟨h0, hd0⟩ | ⟨a, n, c, mm, fu, D, Pl, hcs, hbs, hlc, hcm, hm, hx, hel⟩
 · simp only [List.cons.injEq, and_true] at h0
   subst h0
   exact ⟨[], SliceP.nil _ _⟩
 simp only [List.cons.injEq, and_true] at hcs
 subst hcs
 have hd1 := congrArg Prod.fst hx
 simp only at hd1
 have hnm : n <= mm := by rw [hm]; split <;> omega
 rw [hk] at hel
 obtain ⟨g, o, s⟩ := a
 rcases Nat.eq_zero_or_pos n with h0 | hpos
 · subst h0
   exact ⟨[], SliceP.nil _ _⟩
 have hs : s = none := by
  obtain ⟨cs, h1, h2⟩ := hel 0 (by omega)
  obtain ⟨_, hlen, hc⟩ := World.cells?_some h1
  have c0 := hc 0 hk0
  rw [Nat.zero_mul] at c0
  have hlt : 0 < cs.length := by omega
  rw [List.getElem?_eq_getElem hlt] at c0
  have e1 : ((⟨g, o, s⟩ : Addr).add 0).add 0 = ⟨g, o, s⟩ := by unfold Addr.add; simp
  rw [e1] at c0
  exact cell_spot c0
 subst hs
 have each' : ∀ i, i < n -> ∃ x : α, El w g (o + i * k) x := fun i hi => by
  obtain ⟨cs, h1, h2⟩ := hel i (by omega)
  obtain ⟨_, hlen, hc⟩ := World.cells?_some h1
  refine each g (o + i * k) cs fu (D i) (Pl i) (fun j hj => ?_) hlen h2 ?_
  · have := hc j hj
    rw [add_add] at this
    exact this
  · have h3 := List.sizeOf_lt_of_mem (List.mem_map.2 ⟨i, List.mem_range.2 hi, rfl⟩ : D i ∈ (List.range n).map D)
    rw [hd1, DataW.slice.sizeOf_spec]
    omega
 have hgs : g < w.heap.size := by
  obtain ⟨cs, h1, h2⟩ := hel 0 (by omega)
  obtain ⟨_, hlen, hc⟩ := World.cells?_some h1
  have c0 := hc 0 hk0
  have hlt : 0 < cs.length := by omega
  rw [List.getElem?_eq_getElem hlt, add_add] at c0
  exact cell_lt c0
 haveI : Inhabited α := ⟨(each' 0 hpos).choose⟩
 obtain ⟨S, hS⟩ := choose_lt each'
 refine ⟨(List.range n).map S, ⟨some ⟨g, o, none⟩, c, by simp, by simp; omega, .inr ⟨g, o, rfl, hgs, trivial, fun j q hj => ?_⟩⟩⟩
 rw [List.getElem?_map] at hj
 cases hr : (List.range n)[j]? with
 | none => rw [hr] at hj; cases hj
 | some x =>
  rw [hr] at hj
  have hjn := (List.getElem?_eq_some_iff.1 hr).1
  have hq := (List.getElem?_eq_some_iff.1 hr).2
  rw [List.getElem_range] at hq
  simp only [List.length_range] at hjn
  have hj := Option.some.inj hj
  subst hq; subst hj
  exact hS j hjn
theorem open_strsD {w : World} {base : Nat} {held : Bool} {sp : Nat -> Bool} {fuel : Nat} {v : Value} {d : DataW H} {ps : List MemPlace}
  (hf : DataW.trod enc Tryz.prog w base sp held fuel 22 [v] = some (d, ps)) : ∃ xs : List (List UInt8), StrsP (fun _ => True) w v xs := by
 refine open_sliceD Tryz.underlying22 (by kernel_rfl) (by decide) StrAt hf (fun g o cs fu D Pl hc hlen ht _ => ?_)
 match cs, hlen with
 | [x], _ =>
  obtain ⟨s, e, _, _⟩ := DataW.trod_string Tryz.underlying9 ht
  simp only [List.cons.injEq, and_true] at e
  have c0 := hc 0 (by decide)
  simp only [Nat.add_zero, List.getElem?_cons_zero] at c0
  subst e
  rw [str_list2] at c0
  exact ⟨s.data.toList, c0⟩
theorem trod_struct7 {P : Program} {w : World} {base : Nat} {spare : Nat -> Bool} {held : Bool} {t : TypeId} {f0 f1 f2 f3 f4 f5 f6 : Field} {fuel : Nat} {cs : List Value} {x : DataW H × List MemPlace} (ht : P.underlying t = some (.struct #[f0, f1, f2, f3, f4, f5, f6])) (h : DataW.trod enc P w base spare held fuel t cs = some x) :
  ∃ y0 y1 y2 y3 y4 y5 y6 n, x = (.agg [y0.1, y1.1, y2.1, y3.1, y4.1, y5.1, y6.1], y0.2 ++ (y1.2 ++ (y2.2 ++ (y3.2 ++ (y4.2 ++ (y5.2 ++ y6.2)))))) /\ cs.length = P.cellsOf t /\ DataW.trod enc P w base spare held n f0.type ((cs.drop f0.offset).take (P.cellsOf f0.type)) = some y0 /\
   DataW.trod enc P w base spare held n f1.type ((cs.drop f1.offset).take (P.cellsOf f1.type)) = some y1 /\ DataW.trod enc P w base spare held n f2.type ((cs.drop f2.offset).take (P.cellsOf f2.type)) = some y2 /\
   DataW.trod enc P w base spare held n f3.type ((cs.drop f3.offset).take (P.cellsOf f3.type)) = some y3 /\ DataW.trod enc P w base spare held n f4.type ((cs.drop f4.offset).take (P.cellsOf f4.type)) = some y4 /\
   DataW.trod enc P w base spare held n f5.type ((cs.drop f5.offset).take (P.cellsOf f5.type)) = some y5 /\ DataW.trod enc P w base spare held n f6.type ((cs.drop f6.offset).take (P.cellsOf f6.type)) = some y6 := by
 obtain ⟨xs, n, _, rfl, hl, hlen, hf⟩ := DataW.trod_struct ht h
 match xs, hlen with
 | [y0, y1, y2, y3, y4, y5, y6], _ => exact ⟨y0, y1, y2, y3, y4, y5, y6, n, by simp, hl, by simpa using hf 0 f0 rfl, by simpa using hf 1 f1 rfl, by simpa using hf 2 f2 rfl, by simpa using hf 3 f3 rfl, by simpa using hf 4 f4 rfl, by simpa using hf 5 f5 rfl, by simpa using hf 6 f6 rfl⟩
theorem open_fi_t {w : World} {base : Nat} {held : Bool} {sp : Nat -> Bool} {fuel m : Nat} {cs : List Value} {d : DataW H} {ps : List MemPlace} (hlen : cs.length = 7)
  (ih : ∀ (fu : Nat) (v : Value) (D : DataW H) (Pl : List MemPlace), SizeOf.sizeOf D < SizeOf.sizeOf d -> DataW.trod enc Tryz.prog w base sp held fu 23 [v] = some (D, Pl) -> ∃ xs, FisP m (fun _ => True) w v xs)
  (h : DataW.trod enc Tryz.prog w base sp held fuel 25 cs = some (d, ps)) :
  ∃ (x : Fi) (ua up : Value), cs = [.int .i64 x.kind, strV x.attr, strV x.value, strV x.first, strV x.last, ua, up] /\ StrsP (fun _ => True) w ua x.any /\ FisP m (fun _ => True) w up x.parts := by
 have hci : Tryz.prog.cellsOf 3 = 1 := by kernel_rfl
 have hcs : Tryz.prog.cellsOf 9 = 1 := by kernel_rfl
 have hcl : Tryz.prog.cellsOf 22 = 1 := by kernel_rfl
 have hcf : Tryz.prog.cellsOf 23 = 1 := by kernel_rfl
 match cs, hlen with
 | [c0, c1, c2, c3, c4, c5, c6], _ =>
  obtain ⟨y0, y1, y2, y3, y4, y5, y6, nn, e, _, t0, t1, t2, t3, t4, t5, t6⟩ := trod_struct7 Tryz.underlying25 h
  simp only [hci, hcs, hcl, hcf, List.drop_zero, List.take_succ_cons, List.take_zero, List.drop_succ_cons] at t0 t1 t2 t3 t4 t5 t6
  have e1 := congrArg Prod.fst e
  simp only at e1
  obtain ⟨n0, en, _, _⟩ := DataW.trod_int Tryz.underlying3 t0
  obtain ⟨s1, es1, _, _⟩ := DataW.trod_string Tryz.underlying9 t1
  obtain ⟨s2, es2, _, _⟩ := DataW.trod_string Tryz.underlying9 t2
  obtain ⟨s3, es3, _, _⟩ := DataW.trod_string Tryz.underlying9 t3
  obtain ⟨s4, es4, _, _⟩ := DataW.trod_string Tryz.underlying9 t4
  simp only [List.cons.injEq, and_true] at en es1 es2 es3 es4
  subst en es1 es2 es3 es4
  obtain ⟨xs, hxs⟩ := open_strsD (d := y5.1) (ps := y5.2) t5
  obtain ⟨qs, hqs⟩ := ih nn c6 y6.1 y6.2 (by
   rw [e1, DataW.agg.sizeOf_spec]
   have := List.sizeOf_lt_of_mem (show y6.1 ∈ [y0.1, y1.1, y2.1, y3.1, y4.1, y5.1, y6.1] by simp)
   omega) t6
  exact ⟨.mk n0 s1.data.toList s2.data.toList s3.data.toList s4.data.toList xs qs, c5, c6, by rw [str_list2, str_list2, str_list2, str_list2]; rfl, hxs, hqs⟩
theorem open_fis_t {w : World} {base : Nat} {held : Bool} {sp : Nat -> Bool} : ∀ (m : Nat) {fuel : Nat} {v : Value} {d : DataW H} {ps : List MemPlace}, SizeOf.sizeOf d <= m ->
  DataW.trod enc Tryz.prog w base sp held fuel 23 [v] = some (d, ps) -> ∃ xs, FisP m (fun _ => True) w v xs := by
 intro m
 induction m with
 | zero =>
  intro fuel v d ps hd h
  have : 0 < SizeOf.sizeOf d := by cases d <;> simp <;> omega
  omega
 | succ m ih =>
  intro fuel v d ps hd h
  refine open_sliceD Tryz.underlying23 (by kernel_rfl) (by decide) (FiAt (m + 1) (fun _ => True)) h (fun g o cs fu D Pl hc hlen ht hD => ?_)
  obtain ⟨x, ua, up, rfl, h1, h2⟩ := open_fi_t (m := m) hlen (fun fu v D' Pl' hs hf => ih (by omega) hf) ht
  have k := fun j hj => hc j hj
  exact ⟨x, ua, up, ⟨k 0 (by decide), k 1 (by decide), k 2 (by decide), k 3 (by decide), k 4 (by decide), k 5 (by decide), k 6 (by decide)⟩, h1, h2⟩
theorem array7 {α : Type} {cs : Array α} (h : cs.size = 7) : ∃ c0 c1 c2 c3 c4 c5 c6, cs = #[c0, c1, c2, c3, c4, c5, c6] := by
 obtain ⟨l⟩ := cs
 match l, h with
 | [c0, c1, c2, c3, c4, c5, c6], _ => exact ⟨c0, c1, c2, c3, c4, c5, c6, rfl⟩
theorem open_fi {w : World} {base : Nat} {held : Bool} {r : Reach} {b0 : Nat} {v : Value} {d : DataW H} {ps : List MemPlace} {sp : Nat -> Bool}
  (hval : Value.okWide Tryz.prog w r b0 25 v) (hd : DataW.Trod enc Tryz.prog w base sp held 25 v d ps) :
  ∃ (x : Fi) (n : Nat), FiIn n w v x := by
 obtain ⟨cs, rfl, hsz⟩ := okWide_struct Tryz.underlying25 hval
 obtain ⟨c0, c1, c2, c3, c4, c5, c6, rfl⟩ := array7 (hsz.trans (by kernel_rfl))
 obtain ⟨fuel, hf⟩ := hd
 obtain ⟨x, ua, up, e, h1, h2⟩ := open_fi_t (m := SizeOf.sizeOf d) (cs := [c0, c1, c2, c3, c4, c5, c6]) rfl (fun fu v D Pl hs h => open_fis_t _ (Nat.le_of_lt hs) h) (by simpa [Value.cells] using hf)
 simp only [List.cons.injEq, and_true] at e
 obtain ⟨rfl, rfl, rfl, rfl, rfl, rfl, rfl⟩ := e
 exact ⟨x, _, ⟨_, _, rfl, h1, h2⟩⟩
end
end
end Go.Proofs.YtjmfknfponjgkaaGreatDoor
