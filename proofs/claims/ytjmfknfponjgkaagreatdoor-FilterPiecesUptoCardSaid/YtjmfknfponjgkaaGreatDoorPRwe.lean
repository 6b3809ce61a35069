/- A list of pairs that comes in, opened. Conditions: those that each theorem states. Entries, and attributes, that come in, opened: each is of the row's bulk at most. Conditions: those that each theorem states. A list of texts that comes in, opened by its bulk. Conditions: those that the theorem states. -/
import Derived.Deep.Slices
import Derived.Carry
import Derived.ReadAgain
import Derived.Lib.LaidU8
import Derived.Lib.SmallJoins
import Derived.Test.YtjmfknfponjgkaaGreatDoorPRow
import Derived.Test.YtjmfknfponjgkaaGreatDoorPAva
namespace Go.Proofs.YtjmfknfponjgkaaGreatDoor
open Go.ChangeShapes Go.WideShapes Go.ChangeAt Go.RowKit Go.Deep
section
variable {H : Type} {enc : TypeId × Value → H}

set_option maxRecDepth 100000 in
theorem slice_of_ok {w : World} {r : Reach} {b0 : Nat} {t e : TypeId} {v : Value} (ht : Tryz.prog.underlying t = some (.slice e)) (h : Value.okWide Tryz.prog w r b0 t v) :
    v = .slice none 0 0 ∨ ∃ g o n c, v = .slice (some ⟨g, o, none⟩) n c := by
  simp only [Value.okWide, ht, Cell.okWide] at h
  cases v with
  | slice a n c =>
    cases a with
    | none =>
      match n, c, h with
      | 0, 0, _ => exact .inl rfl
      | n + 1, c, h => simp [Cell.ok, ht] at h
      | 0, c + 1, h => simp [Cell.ok, ht] at h
    | some a =>
      simp only [Cell.ok, ht] at h
      have hs := h.2.2.2.1
      obtain ⟨g, o, s⟩ := a
      simp only at hs
      subst hs
      exact .inr ⟨g, o, n, c, rfl⟩
  | _ => simp [Cell.ok, ht] at h

end
end Go.Proofs.YtjmfknfponjgkaaGreatDoor
namespace Go.Proofs.YtjmfknfponjgkaaGreatDoor
open Go.ChangeShapes Go.WideShapes Go.ChangeAt Go.RowKit Go.Deep Go.Joins
section
variable {H : Type} {enc : TypeId × Value → H}

theorem bulk_mem {d : DataW H} : ∀ {l : List (DataW H)}, d ∈ l → Rows.uptoBulk d ≤ Rows.uptoBulkAll l
  | [], h => by cases h
  | x :: r, h => by
    unfold Rows.uptoBulkAll
    rcases List.mem_cons.1 h with rfl | h
    · omega
    · have := bulk_mem h; omega
theorem bulk_pos (d : DataW H) : 1 ≤ Rows.uptoBulk d := by unfold Rows.uptoBulk; split <;> omega
theorem bulk_len : ∀ (l : List (DataW H)), l.length ≤ Rows.uptoBulkAll l
  | [] => Nat.zero_le _
  | x :: r => by
    unfold Rows.uptoBulkAll
    have h1 := bulk_pos x
    have h2 := bulk_len r
    rw [List.length_cons]; omega
theorem bulk_slice (A B : List (DataW H)) : Rows.uptoBulkAll A ≤ Rows.uptoBulk (.slice A B) := by unfold Rows.uptoBulk; omega
theorem bulk_str {l : List UInt8} {N : Nat} (h : Rows.uptoBulk (.lit (.string l) : DataW H) ≤ N) : l.length ≤ N := by unfold Rows.uptoBulk at h; omega
theorem str_list2 (s : ByteArray) : (Value.string s) = strV s.data.toList := by cases s; simp [strV]
theorem add_add (g o i j : Nat) : ((⟨g, o, none⟩ : Addr).add i).add j = ⟨g, o + i + j, none⟩ := by unfold Addr.add; split <;> split <;> simp_all

theorem sum_bulk {α : Type} {m : α → Nat} {S : Nat → α} {D : Nat → DataW H} : ∀ l : List Nat, (∀ i ∈ l, m (S i) ≤ Rows.uptoBulk (D i)) → EnS.sumBy m (l.map S) ≤ Rows.uptoBulkAll (l.map D)
  | [], _ => Nat.zero_le _
  | i :: l, h => by
    show m (S i) + EnS.sumBy m (l.map S) ≤ Rows.uptoBulkAll (D i :: l.map D)
    unfold Rows.uptoBulkAll
    have h1 := h i (List.mem_cons_self ..)
    have h2 := sum_bulk (m := m) (S := S) (D := D) l (fun j hj => h j (List.mem_cons_of_mem _ hj))
    omega
theorem bulk_slice1 (A B : List (DataW H)) : Rows.uptoBulkAll A + 1 ≤ Rows.uptoBulk (.slice A B) := by unfold Rows.uptoBulk; omega
/-- a slice, opened: each element by a rule of its own -/
theorem open_sliceP {α : Type} {w : World} {base : Nat} {held : Bool} {sp : Nat → Bool} {t e : TypeId} {k fuel : Nat} {v : Value} {d : DataW H} {ps : List MemPlace} {N : Nat}
    (ht : Tryz.prog.underlying t = some (.slice e)) (hk : Tryz.prog.cellsOf e = k) (hk0 : 0 < k) (El : World → Nat → Nat → α → Prop) (G : α → Prop) (m : α → Nat)
    (hf : DataW.trod enc Tryz.prog w base sp held fuel t [v] = some (d, ps)) (hb : Rows.uptoBulk d ≤ N)
    (each : ∀ (g o : Nat) (cs : List Value) (fu : Nat) (D : DataW H) (Pl : List MemPlace), (∀ j, j < k → w.cell? ⟨g, o + j, none⟩ = cs[j]?) → cs.length = k → DataW.trod enc Tryz.prog w base sp held fu e cs = some (D, Pl) → Rows.uptoBulk D ≤ N → ∃ x, El w g o x ∧ G x ∧ m x ≤ Rows.uptoBulk D) :
    ∃ xs : List α, SliceP k El (fun _ => True) w v xs ∧ xs.length ≤ N ∧ (∀ x ∈ xs, G x) ∧ EnS.sumBy m xs + 1 ≤ Rows.uptoBulk d := by
  rcases open_slice ht hf with ⟨h0, hd0⟩ | ⟨a, n, c, mm, fu, D, Pl, hcs, hbs, hlc, hcm, hm, hx, hel⟩
  · simp only [List.cons.injEq, and_true] at h0
    subst h0
    exact ⟨[], SliceP.nil _ _, Nat.zero_le _, (fun x hx => (by cases hx)), bulk_pos d⟩
  simp only [List.cons.injEq, and_true] at hcs
  subst hcs
  have hd1 := congrArg Prod.fst hx
  simp only at hd1
  rw [hd1] at hb
  have hb1 := Nat.le_trans (bulk_slice _ _) hb
  have hnm : n ≤ mm := by rw [hm]; split <;> omega
  rw [hk] at hel
  obtain ⟨g, o, s⟩ := a
  rcases Nat.eq_zero_or_pos n with h0 | hpos
  · subst h0
    exact ⟨[], SliceP.nil _ _, Nat.zero_le _, (fun x hx => (by cases hx)), bulk_pos d⟩
  have hs : s = none := by
    obtain ⟨cs, h1, h2⟩ := hel 0 (by omega)
    obtain ⟨_, hlen, hc⟩ := World.cells?_some h1
    have c0 := hc 0 hk0
    rw [Nat.zero_mul] at c0
    have hlt : 0 < cs.length := by omega
    rw [List.getElem?_eq_getElem hlt] at c0
    have e1 : ((⟨g, o, s⟩ : Addr).add 0).add 0 = ⟨g, o, s⟩ := by unfold Addr.add; simp
    rw [e1] at c0
    exact cell_spot c0
  subst hs
  have each' : ∀ i, i < n → ∃ x : α, El w g (o + i * k) x ∧ G x ∧ m x ≤ Rows.uptoBulk (D i) := fun i hi => by
    obtain ⟨cs, h1, h2⟩ := hel i (by omega)
    obtain ⟨_, hlen, hc⟩ := World.cells?_some h1
    refine each g (o + i * k) cs fu (D i) (Pl i) (fun j hj => ?_) hlen h2 ?_
    · have := hc j hj
      rw [add_add] at this
      exact this
    · exact Nat.le_trans (bulk_mem (List.mem_map.2 ⟨i, List.mem_range.2 hi, rfl⟩)) hb1
  have hlen2 : n ≤ N := by
    have := bulk_len ((List.range n).map D)
    rw [List.length_map, List.length_range] at this
    omega
  have hgs : g < w.heap.size := by
    obtain ⟨cs, h1, h2⟩ := hel 0 (by omega)
    obtain ⟨_, hlen, hc⟩ := World.cells?_some h1
    have c0 := hc 0 hk0
    have hlt : 0 < cs.length := by omega
    rw [List.getElem?_eq_getElem hlt, add_add] at c0
    exact cell_lt c0
  haveI : Inhabited α := ⟨(each' 0 hpos).choose⟩
  obtain ⟨S, hS⟩ := choose_lt each'
  refine ⟨(List.range n).map S, ⟨some ⟨g, o, none⟩, c, by simp, by simp; omega, .inr ⟨g, o, rfl, hgs, trivial, fun j q hj => ?_⟩⟩, by simpa using hlen2, fun q hq => ?_, ?_⟩
  · rw [List.getElem?_map] at hj
    cases hr : (List.range n)[j]? with
    | none => rw [hr] at hj; cases hj
    | some x =>
      rw [hr] at hj
      have hjn := (List.getElem?_eq_some_iff.1 hr).1
      have hq := (List.getElem?_eq_some_iff.1 hr).2
      rw [List.getElem_range] at hq
      simp only [List.length_range] at hjn
      have hj := Option.some.inj hj
      subst hq; subst hj
      exact (hS j hjn).1
  · obtain ⟨i, hi, rfl⟩ := List.mem_map.1 hq
    exact (hS i (List.mem_range.1 hi)).2.1
  · have h1 := sum_bulk (m := m) (S := S) (D := D) (List.range n) (fun i hi => (hS i (List.mem_range.1 hi)).2.2)
    have h2 := bulk_slice1 ((List.range n).map D) ((List.range (mm - n)).map fun j => D (n + j))
    rw [hd1]
    omega

theorem open_strs {w : World} {base : Nat} {held : Bool} {sp : Nat → Bool} {fuel : Nat} {v : Value} {d : DataW H} {ps : List MemPlace} {N : Nat}
    (hf : DataW.trod enc Tryz.prog w base sp held fuel 22 [v] = some (d, ps)) (hb : Rows.uptoBulk d ≤ N) :
    ∃ xs : List (List UInt8), StrsP (fun _ => True) w v xs ∧ xs.length ≤ N ∧ (∀ x ∈ xs, x.length ≤ N) ∧ EnS.sumBy (fun v => 1 + EnS.cV v) xs + 1 ≤ Rows.uptoBulk d := by
  refine open_sliceP Tryz.underlying22 (by kernel_rfl) (by decide) StrAt (fun x => x.length ≤ N) (fun v => 1 + EnS.cV v) hf hb (fun g o cs fu D Pl hc hlen ht hD => ?_)
  match cs, hlen with
  | [x], _ =>
    obtain ⟨s, e, k, _⟩ := DataW.trod_string Tryz.underlying9 ht
    simp only [List.cons.injEq, and_true] at e
    have c0 := hc 0 (by decide)
    simp only [Nat.add_zero, List.getElem?_cons_zero] at c0
    subst e
    rw [str_list2] at c0
    have k1 : D = .lit (.string s.data.toList) := by first | exact k | exact congrArg Prod.fst k | simpa using k
    rw [k1] at hD ⊢
    refine ⟨s.data.toList, c0, bulk_str hD, ?_⟩
    unfold Rows.uptoBulk EnS.cV
    have := Nat.div_le_self s.data.toList.length 100
    omega
end
end Go.Proofs.YtjmfknfponjgkaaGreatDoor
namespace Go.Proofs.YtjmfknfponjgkaaGreatDoor
open Go.ChangeShapes Go.WideShapes Go.ChangeAt Go.RowKit Go.Deep Go.Joins
section
variable {H : Type} {enc : TypeId × Value → H}
set_option maxRecDepth 100000 in
theorem open_strsV {w : World} {base : Nat} {held : Bool} {r : Reach} {b0 : Nat} {v : Value} {d : DataW H} {ps : List MemPlace} {sp : Nat → Bool} {N : Nat}
    (hval : Value.okWide Tryz.prog w r b0 22 v) (hd : DataW.Trod enc Tryz.prog w base sp held 22 v d ps) (hb : Rows.uptoBulk d ≤ N) :
    ∃ xs : List (List UInt8), StrsIn w v xs ∧ xs.length ≤ N := by
  obtain ⟨fuel, hf⟩ := hd
  rcases slice_of_ok Tryz.underlying22 hval with rfl | ⟨g, o, n, c, rfl⟩
  · exact ⟨[], StrsIn.empty w, Nat.zero_le _⟩
  · obtain ⟨xs, h1, h2, _⟩ := open_strs (by simpa [Value.cells] using hf) hb
    exact ⟨xs, h1.strs, h2⟩
end
end Go.Proofs.YtjmfknfponjgkaaGreatDoor
