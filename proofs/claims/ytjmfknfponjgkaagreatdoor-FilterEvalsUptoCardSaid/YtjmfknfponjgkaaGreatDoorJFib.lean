/- The walks of how many filters stand in one, and how deep it is: Nodes (the program's, the document's), deep. Conditions: as stated. -/
import Derived.Deep.DrawnRows
import Derived.Deep.RegionHeld3
import Derived.Test.YtjmfknfponjgkaaGreatDoorJFia
set_option maxRecDepth 100000
set_option maxHeartbeats 2000000
namespace Go.Proofs.YtjmfknfponjgkaaGreatDoor
section
namespace FiS
theorem nodesL_take : ∀ {ps : List Fi} {j : Nat} (hj : j < ps.length), nodesL (ps.take (j + 1)) = nodesL (ps.take j) + nodes (ps[j]'hj)
 | [], j, hj => by simp at hj
 | p :: r, 0, _ => by
  show nodes p + nodesL (r.take 0) = nodesL [] + nodes p
  simp [nodesL]
 | p :: r, j + 1, hj => by
  have ih := nodesL_take (ps := r) (j := j) (by simpa using hj)
  show nodes p + nodesL (r.take (j + 1)) = nodes p + nodesL (r.take j) + nodes (r[j]'(by simpa using hj))
  omega
theorem nodesL_le : ∀ (ps : List Fi) (j : Nat), nodesL (ps.take j) <= nodesL ps
 | [], j => by simp
 | p :: r, 0 => by simp [nodesL]
 | p :: r, j + 1 => by
  have := nodesL_le r j
  show nodes p + nodesL (r.take j) <= nodes p + nodesL r
  omega
theorem nodesL_ge : ∀ (ps : List Fi), ps.length <= nodesL ps
 | [] => Nat.zero_le _
 | p :: r => by
  have h1 := nodesL_ge r
  have h2 : 1 <= nodes p := by cases p; rw [nodes]; omega
  show r.length + 1 <= nodes p + nodesL r
  omega
theorem nodesL_at {ps : List Fi} {j : Nat} (h : j <= ps.length) : j <= nodesL (ps.take j) := by
 have := nodesL_ge (ps.take j)
 rw [List.length_take] at this
 omega
theorem nodes_pos (x : Fi) : 1 <= nodes x := by cases x; rw [nodes]; omega
theorem depthL_take : ∀ {ps : List Fi} {j : Nat} (hj : j < ps.length), depthL (ps.take (j + 1)) = max (depthL (ps.take j)) (depth (ps[j]'hj))
 | [], j, hj => by simp at hj
 | p :: r, 0, _ => by
  show max (depth p) (depthL (r.take 0)) = max (depthL []) (depth p)
  simp [depthL]
 | p :: r, j + 1, hj => by
  have ih := depthL_take (ps := r) (j := j) (by simpa using hj)
  show max (depth p) (depthL (r.take (j + 1))) = max (max (depth p) (depthL (r.take j))) (depth (r[j]'(by simpa using hj)))
  omega
end FiS
open Go.RowKit
open FiS (Fi)
attribute [local go_sem ↓] Go.wp_at_zero Go.wp_at_succ
def NodesC (n : Nat) : Prop := ∀ (x : Fi) (v : Value) (w : World), FiIn n w v x -> Calls Tryz.prog 17 #[v] w fun e w' => e = .returned (.int .i64 ((min (FiS.nodes x) 41 : Nat) : Int)) /\ Below w.heap.size w w'
theorem nodes_c : ∀ n, NodesC n := deep_ind (fun n IH => by
 intro x v w h
 obtain ⟨kd, at0, vl, fs, ls, an, ps⟩ := x
 obtain ⟨a5, c5, a6, c6, hv, hss, hc6, hps⟩ := FiV.parts h
 have hv : v = .agg #[.int .i64 kd, .string ⟨at0.toArray⟩, .string ⟨vl.toArray⟩, .string ⟨fs.toArray⟩, .string ⟨ls.toArray⟩, .slice a5 an.length c5, .slice a6 ps.length c6] := hv
 subst hv
 have hss : StrsIn w (.slice a5 an.length c5) an := hss
 have hc6 : ps.length <= c6 := hc6
 have hps : FisP n (fun _ => True) w (.slice a6 ps.length c6) ps := hps
 have HT := hZ9 (fun j (hj : j < ps.length) => FiS.nodesL_take hj)
 have HLE := hZ9 (fun j => FiS.nodesL_le ps j)
 have HGE := hZ9 (fun j (hj : j <= ps.length) => FiS.nodesL_at hj)
 have HALL : Hid (ps.take ps.length = ps) := hZ9 (List.take_length)
 have hN : FiS.nodes (.mk kd at0 vl fs ls an ps) = 1 + FiS.nodesL ps := by rw [FiS.nodes]
 rw [hN]
 clear hN
 obtain ⟨R, hR⟩ : ∃ r, min (1 + FiS.nodesL ps) 41 = r := ⟨_, rfl⟩
 have HR := hZ9 hR
 rw [hR]
 clear hR
 obtain ⟨AL, hAL⟩ : ∃ m, an.length = m := ⟨_, rfl⟩
 obtain ⟨PL, hPL⟩ : ∃ m, ps.length = m := ⟨_, rfl⟩
 have HAL := hZ9 hAL
 have HPL := hZ9 hPL
 rw [hAL] at hss
 rw [hPL] at hc6 hps
 try rw [hAL]
 try rw [hPL]
 have hg0 := grow1 w (.cells #[.int .i64 kd, .string ⟨at0.toArray⟩, .string ⟨vl.toArray⟩, .string ⟨fs.toArray⟩, .string ⟨ls.toArray⟩, .slice a5 AL c5, .slice a6 PL c6] 33)
 have hw0 := Whole.made w 33 #[.int .i64 kd, .string ⟨at0.toArray⟩, .string ⟨vl.toArray⟩, .string ⟨fs.toArray⟩, .string ⟨ls.toArray⟩, .slice a5 AL c5, .slice a6 PL c6]
 have HAT := hZ9 (fun j (hj : j < ps.length) => FisP.at hps j hj)
 rw [hPL] at HALL
 obtain ⟨q0, q1, q2, q3, q4, q5, q6⟩ := hw0.seven
 clear h hss hps hAL hPL HAL
 go_enter Tryz.func17, Tryz.ntmps17
 go_wp2_with fail
 go_loopw [3, 9] (fun nv i wr => ∃ j N : Nat, j <= PL /\ i = .int .i64 j /\ nv = .int .i64 (N : Int) /\ Hid (N = 1 + FiS.nodesL (ps.take j) ) /\ N <= 40 /\ Below w.heap.size w wr) (fun _ i _ => PL - (intOf i).toNat)
 case atStart => exact ⟨0, 1, Nat.zero_le _, rfl, rfl, hZ9 ((by simp [FiS.nodesL])), by omega, hg0⟩
 case round =>
  obtain ⟨j, N, hj, rfl, rfl, HN, hN40, hb⟩ := hrel
  clear hw0 hg0 q0 q1 q2 q3 q4 q5 q6
  by_cases hlt : j < PL
  · have hlt2 : j < ps.length := by rw [HPL.out]; exact hlt
    have ht := HT.out j hlt2
    have hge := HGE.out j (Nat.le_of_lt hlt2)
    have hj39 : N <= 40 -> j <= 40 := fun h => by have := HN.out; omega
    have hle := HLE.out (j + 1)
    obtain ⟨d, rfl, g, o, rfl, hg, b5, d5, b6, d6, hin, y0, y1, y2, y3, y4, y5, y6⟩ := HAT.out j hlt2
    have hin := hin.call hb
    have y0 := (hb.cell (p := ⟨g, o + j * 7, none⟩) hg).trans y0
    have y1 := (hb.cell (p := ⟨g, o + j * 7 + 1, none⟩) hg).trans y1
    have y2 := (hb.cell (p := ⟨g, o + j * 7 + 2, none⟩) hg).trans y2
    have y3 := (hb.cell (p := ⟨g, o + j * 7 + 3, none⟩) hg).trans y3
    have y4 := (hb.cell (p := ⟨g, o + j * 7 + 4, none⟩) hg).trans y4
    have y5 := (hb.cell (p := ⟨g, o + j * 7 + 5, none⟩) hg).trans y5
    have y6 := (hb.cell (p := ⟨g, o + j * 7 + 6, none⟩) hg).trans y6
    have hrec := fun v W h => IH d rfl (ps[j]'hlt2) v W h
    have hpos := FiS.nodes_pos (ps[j]'hlt2)
    clear IH HAT HT HLE HGE
    generalize ps[j] = p at *
    generalize p.any.length = PA at *
    generalize p.parts.length = PP at *
    have hl0 : (0 : Int) <= (j : Int) := by omega
    have hl1 : (j : Int) < (PL : Int) := by omega
    have hgX := grow1 wr (.cells #[.int .i64 p.kind, .string ⟨p.attr.toArray⟩, .string ⟨p.value.toArray⟩, .string ⟨p.first.toArray⟩, .string ⟨p.last.toArray⟩, .slice b5 PA d5, .slice b6 PP d6] 33)
    have hwX := Whole.made wr 33 #[.int .i64 p.kind, .string ⟨p.attr.toArray⟩, .string ⟨p.value.toArray⟩, .string ⟨p.first.toArray⟩, .string ⟨p.last.toArray⟩, .slice b5 PA d5, .slice b6 PP d6]
    obtain ⟨x0, x1, x2, x3, x4, x5, x6⟩ := hwX.seven
    have hbX := hb.trans (hgX.mono hb.size)
    have hc := hrec _ _ (hin.call hgX)
    clear hrec hin hwX
    obtain ⟨M, hM⟩ : ∃ m, FiS.nodes p = m := ⟨_, rfl⟩
    rw [hM] at hc ht hpos
    clear hM
    obtain ⟨M2, hM2⟩ : ∃ m, min M 41 = m := ⟨_, rfl⟩
    rw [hM2] at hc
    have hM3 : M2 <= 41 /\ (M2 = M \/ (M2 = 41 /\ 41 < M)) := by omega
    have HM2 := hZ9 hM2
    clear hM2
    go_wp2_with fail
    refine hc.mono ?_; rintro e w2 ⟨rfl, hb2⟩
    have hz2 := hbX.trans (hb2.mono hbX.size)
    clear hc
    by_cases hbig : 40 < N + M2
    · have hbi : decide ((40 : Int) < (N : Int) + (M2 : Int)) = true := decide_eq_true (by omega)
      have hR : R = 41 := by have := HN.out; have := HR.out; omega
      clear hbig
      go_wp2_with fail
      go_ret
      exact ⟨by rw [hR]; rfl, hz2⟩
    · have hbi : decide ((40 : Int) < (N : Int) + (M2 : Int)) = false := decide_eq_false (by omega)
      have hj40 := hj39 hN40
      have HN2 : Hid (N + M2 = 1 + FiS.nodesL (ps.take (j + 1))) := hZ9 (by have := HN.out; omega)
      have hN2 : N + M2 <= 40 := by omega
      go_wp2_with fail
      go_roundw
      case rel => exact ⟨j + 1, N + M2, by omega, by go_num, by go_num, HN2, hN2, hz2⟩
      case measure => simp [intOf]; omega
  · have hjl : j = PL := by omega
    subst hjl
    have hR : R = N := by have := HN.out; rw [HALL.out] at this; have := HR.out; omega
    clear IH HAT HT HLE HN HGE
    go_wp2_with fail
    go_ret
    subst hR
    exact ⟨rfl, hb⟩)
def RefNodesC (n : Nat) : Prop := ∀ (x : Fi) (v : Value) (w : World), FiIn n w v x -> Calls Tryz.prog 18 #[v] w fun e w' => e = .returned (.int .i64 ((min (FiS.nodes x) 41 : Nat) : Int)) /\ Below w.heap.size w w'
theorem refnodes_c : ∀ n, RefNodesC n := deep_ind (fun n IH => by
 intro x v w h
 obtain ⟨kd, at0, vl, fs, ls, an, ps⟩ := x
 obtain ⟨a5, c5, a6, c6, hv, hss, hc6, hps⟩ := FiV.parts h
 have hv : v = .agg #[.int .i64 kd, .string ⟨at0.toArray⟩, .string ⟨vl.toArray⟩, .string ⟨fs.toArray⟩, .string ⟨ls.toArray⟩, .slice a5 an.length c5, .slice a6 ps.length c6] := hv
 subst hv
 have hss : StrsIn w (.slice a5 an.length c5) an := hss
 have hc6 : ps.length <= c6 := hc6
 have hps : FisP n (fun _ => True) w (.slice a6 ps.length c6) ps := hps
 have HT := hZ9 (fun j (hj : j < ps.length) => FiS.nodesL_take hj)
 have HLE := hZ9 (fun j => FiS.nodesL_le ps j)
 have HGE := hZ9 (fun j (hj : j <= ps.length) => FiS.nodesL_at hj)
 have HALL : Hid (ps.take ps.length = ps) := hZ9 (List.take_length)
 have hN : FiS.nodes (.mk kd at0 vl fs ls an ps) = 1 + FiS.nodesL ps := by rw [FiS.nodes]
 rw [hN]
 clear hN
 obtain ⟨R, hR⟩ : ∃ r, min (1 + FiS.nodesL ps) 41 = r := ⟨_, rfl⟩
 have HR := hZ9 hR
 rw [hR]
 clear hR
 obtain ⟨AL, hAL⟩ : ∃ m, an.length = m := ⟨_, rfl⟩
 obtain ⟨PL, hPL⟩ : ∃ m, ps.length = m := ⟨_, rfl⟩
 have HAL := hZ9 hAL
 have HPL := hZ9 hPL
 rw [hAL] at hss
 rw [hPL] at hc6 hps
 try rw [hAL]
 try rw [hPL]
 have hg0 := grow1 w (.cells #[.int .i64 kd, .string ⟨at0.toArray⟩, .string ⟨vl.toArray⟩, .string ⟨fs.toArray⟩, .string ⟨ls.toArray⟩, .slice a5 AL c5, .slice a6 PL c6] 25)
 have hw0 := Whole.made w 25 #[.int .i64 kd, .string ⟨at0.toArray⟩, .string ⟨vl.toArray⟩, .string ⟨fs.toArray⟩, .string ⟨ls.toArray⟩, .slice a5 AL c5, .slice a6 PL c6]
 have HAT := hZ9 (fun j (hj : j < ps.length) => FisP.at hps j hj)
 rw [hPL] at HALL
 obtain ⟨q0, q1, q2, q3, q4, q5, q6⟩ := hw0.seven
 clear h hss hps hAL hPL HAL
 go_enter Tryz.func18, Tryz.ntmps18
 go_wp2_with fail
 go_loopw [3, 8] (fun nv i wr => ∃ j N : Nat, j <= PL /\ i = .int .i64 j /\ nv = .int .i64 (N : Int) /\ Hid (N = 1 + FiS.nodesL (ps.take j) \/ (40 < N /\ N <= 81 /\ 40 < 1 + FiS.nodesL (ps.take j))) /\ N <= 81 /\ Whole wr w.heap.size 25 #[.int .i64 kd, .string ⟨at0.toArray⟩, .string ⟨vl.toArray⟩, .string ⟨fs.toArray⟩, .string ⟨ls.toArray⟩, .slice a5 AL c5, .slice a6 PL c6] /\ Below w.heap.size w wr) (fun _ i _ => PL - (intOf i).toNat)
 case atStart => exact ⟨0, 1, Nat.zero_le _, rfl, rfl, hZ9 (.inl (by simp [FiS.nodesL])), by omega, hw0, hg0⟩
 case round =>
  obtain ⟨j, N, hj, rfl, rfl, HN, hN40, hw, hb⟩ := hrel
  clear hw0 hg0 q0 q1 q2 q3 q4 q5 q6
  by_cases hlt : j < PL
  · have hlt2 : j < ps.length := by rw [HPL.out]; exact hlt
    have ht := HT.out j hlt2
    have hge := HGE.out j (Nat.le_of_lt hlt2)
    have hj39 : N <= 40 -> j <= 40 := fun h => by have := HN.out; omega
    have hle := HLE.out (j + 1)
    have HLE2 := hZ9 HLE.out
    obtain ⟨d, rfl, g, o, rfl, hg, b5, d5, b6, d6, hin, y0, y1, y2, y3, y4, y5, y6⟩ := HAT.out j hlt2
    have hin := hin.call hb
    have y0 := (hb.cell (p := ⟨g, o + j * 7, none⟩) hg).trans y0
    have y1 := (hb.cell (p := ⟨g, o + j * 7 + 1, none⟩) hg).trans y1
    have y2 := (hb.cell (p := ⟨g, o + j * 7 + 2, none⟩) hg).trans y2
    have y3 := (hb.cell (p := ⟨g, o + j * 7 + 3, none⟩) hg).trans y3
    have y4 := (hb.cell (p := ⟨g, o + j * 7 + 4, none⟩) hg).trans y4
    have y5 := (hb.cell (p := ⟨g, o + j * 7 + 5, none⟩) hg).trans y5
    have y6 := (hb.cell (p := ⟨g, o + j * 7 + 6, none⟩) hg).trans y6
    have hrec := fun v W h => IH d rfl (ps[j]'hlt2) v W h
    have hpos := FiS.nodes_pos (ps[j]'hlt2)
    clear IH HAT HT HLE HGE
    generalize ps[j] = p at *
    generalize p.any.length = PA at *
    generalize p.parts.length = PP at *
    have hl0 : (0 : Int) <= (j : Int) := by omega
    have hl1 : (j : Int) < (PL : Int) := by omega
    by_cases hbig : 40 < N
    · have hbi : decide ((40 : Int) < (N : Int)) = true := decide_eq_true (by omega)
      have hR : R = 41 := by have := HN.out; have := HLE2.out j; have := HR.out; omega
      have hR2 : min (N : Int) 41 = 41 := by omega
      clear hrec hin
      go_wp2_with fail
      go_ret
      exact ⟨by rw [hR]; rfl, hb⟩
    have hbi : decide ((40 : Int) < (N : Int)) = false := decide_eq_false (by omega)
    have hc := hrec _ _ hin
    clear hrec hin
    obtain ⟨q0, q1, q2, q3, q4, q5, q6⟩ := hw.seven
    obtain ⟨M, hM⟩ : ∃ m, FiS.nodes p = m := ⟨_, rfl⟩
    rw [hM] at hc ht hpos
    clear hM
    obtain ⟨M2, hM2⟩ : ∃ m, min M 41 = m := ⟨_, rfl⟩
    rw [hM2] at hc
    have hM3 : M2 <= 41 /\ (M2 = M \/ (M2 = 41 /\ 41 < M)) := by omega
    clear hM2
    go_wp2_with fail
    refine hc.mono ?_; rintro e w2 ⟨rfl, hb2⟩
    have hz2 := hb.trans (hb2.mono hb.size)
    have hw2 := hw.call hb2
    clear hc q0 q1 q2 q3 q4 q5 q6
    have hj40 := hj39 (by omega)
    have HN2 : Hid (N + M2 = 1 + FiS.nodesL (ps.take (j + 1)) \/ (40 < N + M2 /\ N + M2 <= 81 /\ 40 < 1 + FiS.nodesL (ps.take (j + 1)))) := hZ9 (by have := HN.out; omega)
    have hN2 : N + M2 <= 81 := by omega
    go_wp2_with fail
    go_roundw
    case rel => exact ⟨j + 1, N + M2, by omega, by go_num, by go_num, HN2, hN2, hw2, hz2⟩
    case measure => simp [intOf]; omega
  · have hjl : j = PL := by omega
    subst hjl
    have hmn : min (N : Int) 41 = (R : Int) := by have := HN.out; rw [HALL.out] at this; have := HR.out; omega
    clear IH HAT HT HLE HN HGE
    go_wp2_with fail
    go_ret
    first | exact ⟨rfl, hb⟩ | exact ⟨by rw [hmn], hb⟩ | exact ⟨by rw [<- hmn], hb⟩)
end
section
namespace FiS
def okI (i : Nat) (c : UInt8) : Bool := if i = 0 then isLetter c else attrC c
theorem attr_bad {s : List UInt8} {i : Nat} (hi : i < s.length) (h : okI i (s[i]'hi) = false) : attrS s = false := by
 cases s with
 | nil => rfl
 | cons c r =>
  show (isLetter c && r.all attrC && decide ((c :: r).length <= 40)) = false
  cases i with
  | zero =>
   have h : isLetter c = false := h
   rw [h]; rfl
  | succ i =>
   have h : attrC (r[i]'(by simpa using hi)) = false := h
   have hall : r.all attrC = false := by
    rw [List.all_eq_false]
    exact ⟨_, List.getElem_mem (by simpa using hi), by rw [h]; simp⟩
   rw [hall]; simp
theorem attr_good {s : List UInt8} (h : ∀ i (hi : i < s.length), okI i (s[i]'hi) = true) : attrS s = (!s.isEmpty && decide (s.length <= 40)) := by
 cases s with
 | nil => rfl
 | cons c r =>
  have h0 : isLetter c = true := h 0 (by simp)
  have h1 : r.all attrC = true := by
   rw [List.all_eq_true]
   intro x hx
   obtain ⟨i, hi, rfl⟩ := List.mem_iff_getElem.1 hx
   exact h (i + 1) (by simpa using hi)
  show (isLetter c && r.all attrC && decide ((c :: r).length <= 40)) = _
  rw [h0, h1]; rfl
theorem ok_more {s : List UInt8} {j : Nat} (hj : j < s.length) (h : ∀ i (hi : i < s.length), i < j -> okI i (s[i]'hi) = true) (h2 : okI j (s[j]'hj) = true) : ∀ i (hi : i < s.length), i < j + 1 -> okI i (s[i]'hi) = true := fun i hi hij => by
 by_cases e : i = j
 · subst e; exact h2
 · exact h i hi (by omega)
theorem letter_or : ∀ n : Fin 256, (decide ((97 : Int) <= (((UInt8.ofNat n.val) ||| 32).toNat : Int)) && decide ((((UInt8.ofNat n.val) ||| 32).toNat : Int) <= 122)) = isLetter (UInt8.ofNat n.val) := by decide +kernel
theorem letter_or_c (c : UInt8) : (decide ((97 : Int) <= ((c ||| 32).toNat : Int)) && decide (((c ||| 32).toNat : Int) <= 122)) = isLetter c := by
 have := letter_or ⟨c.toNat, c.toNat_lt⟩
 simpa only [UInt8.ofNat_toNat] using this
theorem or_32 : ∀ n : Fin 256, bits .or .u8 ((UInt8.ofNat n.val).toNat : Int) 32 = (((UInt8.ofNat n.val) ||| 32).toNat : Int) := by decide +kernel
theorem or_32_c (c : UInt8) : bits .or .u8 (c.toNat : Int) 32 = ((c ||| 32).toNat : Int) := by
 have := or_32 ⟨c.toNat, c.toNat_lt⟩
 simpa only [UInt8.ofNat_toNat] using this
end FiS
open Go.RowKit
open FiS (Fi)
attribute [local go_sem ↓] Go.wp_at_zero Go.wp_at_succ
theorem letter_c (c : UInt8) (w : World) : Calls Tryz.prog 92 #[.int .u8 (c.toNat : Int)] w fun e w' => e = .returned (.bool (FiS.isLetter c)) /\ w = w' := by
 have HR : Hid (FiS.isLetter c = (decide (65 <= c.toNat /\ c.toNat <= 90) || decide (97 <= c.toNat /\ c.toNat <= 122))) := hZ9 rfl
 generalize FiS.isLetter c = R at *
 have hc : (97 <= c.toNat /\ c.toNat <= 122 /\ R = true) \/ (97 <= c.toNat /\ 122 < c.toNat /\ R = false) \/ (c.toNat < 65 /\ R = false) \/ (65 <= c.toNat /\ c.toNat <= 90 /\ R = true) \/ (90 < c.toNat /\ c.toNat < 97 /\ R = false) := by
  have h := HR.out
  have e : (decide (65 <= c.toNat /\ c.toNat <= 90) || decide (97 <= c.toNat /\ c.toNat <= 122)) = decide ((65 <= c.toNat /\ c.toNat <= 90) \/ (97 <= c.toNat /\ c.toNat <= 122)) := by rw [Bool.decide_or]
  rw [e] at h
  by_cases h1 : 97 <= c.toNat
  · by_cases h2 : c.toNat <= 122
    · exact .inl ⟨h1, h2, by rw [h]; exact decide_eq_true (.inr ⟨h1, h2⟩)⟩
    · exact .inr (.inl ⟨h1, by omega, by rw [h]; exact decide_eq_false (by omega)⟩)
  · by_cases h2 : c.toNat < 65
    · exact .inr (.inr (.inl ⟨h2, by rw [h]; exact decide_eq_false (by omega)⟩))
    · by_cases h3 : c.toNat <= 90
      · exact .inr (.inr (.inr (.inl ⟨by omega, h3, by rw [h]; exact decide_eq_true (.inl ⟨by omega, h3⟩)⟩)))
      · exact .inr (.inr (.inr (.inr ⟨by omega, by omega, by rw [h]; exact decide_eq_false (by omega)⟩)))
 clear HR
 rcases hc with ⟨h1, h2, rfl⟩ | ⟨h1, h2, rfl⟩ | ⟨h1, rfl⟩ | ⟨h1, h2, rfl⟩ | ⟨h1, h2, rfl⟩
 all_goals
  first | have g1 : decide ((97 : Int) <= (c.toNat : Int)) = true := decide_eq_true (by omega) | have g1 : decide ((97 : Int) <= (c.toNat : Int)) = false := decide_eq_false (by omega)
  first | have g2 : decide ((c.toNat : Int) <= 122) = true := decide_eq_true (by omega) | have g2 : decide ((c.toNat : Int) <= 122) = false := decide_eq_false (by omega)
  first | have g3 : decide ((65 : Int) <= (c.toNat : Int)) = true := decide_eq_true (by omega) | have g3 : decide ((65 : Int) <= (c.toNat : Int)) = false := decide_eq_false (by omega)
  first | have g4 : decide ((c.toNat : Int) <= 90) = true := decide_eq_true (by omega) | have g4 : decide ((c.toNat : Int) <= 90) = false := decide_eq_false (by omega)
  go_enter Tryz.func92, Tryz.ntmps92
  go_wp2_with fail
  go_ret
  exact ⟨rfl, rfl⟩
theorem fits_c (s : List UInt8) (w : World) : Calls Tryz.prog 63 #[.string ⟨s.toArray⟩] w fun e w' => e = .returned (.bool (FiS.fitsS s)) /\ w = w' := by
 cases s with
 | nil =>
  go_enter Tryz.func63, Tryz.ntmps63
  go_wp2_with fail
  go_ret
  exact ⟨rfl, rfl⟩
 | cons c r =>
  have HR : Hid (FiS.fitsS (c :: r) = decide ((c :: r).length <= 200)) := hZ9 rfl
  generalize FiS.fitsS (c :: r) = R at *
  generalize hg : c :: r = s at *
  have h1 : s.isEmpty = false := by subst hg; rfl
  have h2 : (s == []) = false := by subst hg; rfl
  have h3 : ¬ s = [] := by subst hg; simp
  clear hg
  go_enter Tryz.func63, Tryz.ntmps63
  go_wp2_with fail
  go_ret
  refine ⟨?_, rfl⟩
  rw [HR.out]
  first | rfl | (rw [show decide ((s.length : Int) <= 200) = decide (s.length <= 200) from decide_eq_decide.2 (by omega)]; rfl)
theorem reffits_c (s : List UInt8) (w : World) : Calls Tryz.prog 69 #[.string ⟨s.toArray⟩] w fun e w' => e = .returned (.bool (FiS.fitsS s)) /\ w = w' := by
 have HR : Hid (FiS.fitsS s = (decide (1 <= s.length) && decide (s.length <= 200))) := hZ9 (by
  unfold FiS.fitsS
  cases s <;> simp)
 generalize FiS.fitsS s = R at *
 by_cases h1 : 1 <= s.length
 · have g1 : decide ((1 : Int) <= (s.length : Int)) = true := decide_eq_true (by omega)
   go_enter Tryz.func69, Tryz.ntmps69
   go_wp2_with fail
   go_ret
   refine ⟨?_, rfl⟩
   rw [HR.out, decide_eq_true h1, Bool.true_and]
   first | rfl | (rw [show decide ((s.length : Int) <= 200) = decide (s.length <= 200) from decide_eq_decide.2 (by omega)]; rfl)
 · have g1 : decide ((1 : Int) <= (s.length : Int)) = false := decide_eq_false (by omega)
   have HR2 : R = false := by rw [HR.out, decide_eq_false h1]; rfl
   subst HR2
   go_enter Tryz.func69, Tryz.ntmps69
   go_wp2_with fail
   go_ret
   exact ⟨rfl, rfl⟩
theorem ownclo_c (s : List UInt8) (w : World) : Calls Tryz.prog 65 #[.string ⟨s.toArray⟩] w fun e w' => e = .returned (.bool (!FiS.fitsS s)) /\ w = w' := by
 have hc := fits_c s w
 generalize FiS.fitsS s = R at *
 go_enter Tryz.func65, Tryz.ntmps65
 go_wp2_with fail
 refine hc.mono ?_; rintro e w1 ⟨rfl, rfl⟩
 go_wp2_with fail
 go_ret
 exact ⟨rfl, rfl⟩
theorem attribute_c (s : List UInt8) (hs : s.length <= 20000) (w : World) : Calls Tryz.prog 62 #[.string ⟨s.toArray⟩] w fun e w' => e = .returned (.bool (FiS.attrS s)) /\ Below w.heap.size w w' := by
 have hconv := fun w => Lib.run_convert_string_bytes (P := Tryz.prog) w 9 61 5 ⟨s.toArray⟩ Tryz.underlying9 Tryz.underlying61 Tryz.underlying5
 have hcap : (⟨s.toArray⟩ : ByteArray).size <= grownCap w (⟨s.toArray⟩ : ByteArray).size 0 5 := grownCap_ge _ _ _ _
 have hb0 := BytesIn.conv w 5 ⟨s.toArray⟩
 have hbw := Lib.bytesWorld_below w 5 ⟨s.toArray⟩
 have hsz : (⟨s.toArray⟩ : ByteArray).size = s.length := by show s.toArray.size = _; simp
 have hdl : (⟨s.toArray⟩ : ByteArray).data.toList = s := by simp
 rw [hdl] at hb0
 rw [hsz] at hconv hcap
 have HBAD := hZ9 (fun j (hj : j < s.length) h => FiS.attr_bad hj h)
 have HGOOD := hZ9 (fun h => FiS.attr_good (s := s) h)
 have HMORE := hZ9 (fun j (hj : j < s.length) h h2 => FiS.ok_more hj h h2)
 obtain ⟨R, hR⟩ : ∃ r, FiS.attrS s = r := ⟨_, rfl⟩
 rw [hR] at HBAD HGOOD ⊢
 clear hR hdl
 obtain ⟨n, hn⟩ : ∃ n, s.length = n := ⟨_, rfl⟩
 go_enter Tryz.func62, Tryz.ntmps62
 go_wp2_with fail
 clear hconv
 generalize grownCap w n 0 5 = cap at *
 generalize Lib.bytesWorld w 5 ⟨s.toArray⟩ = w0 at *
 go_loopw [9] (fun i wr => ∃ j : Nat, j <= n /\ i = .int .i64 j /\ Hid (∀ i (hi : i < s.length), i < j -> FiS.okI i (s[i]'hi) = true) /\ BytesIn wr w.heap.size s /\ Below w.heap.size w wr) (fun i _ => n - (intOf i).toNat)
 case atStart => exact ⟨0, Nat.zero_le _, rfl, hZ9 (fun i hi h => by omega), hb0, hbw⟩
 case round =>
  obtain ⟨j, hj, rfl, HA, hin, hb⟩ := hrel
  clear hb0 hbw
  by_cases hlt : j < n
  · have hlt2 : j < s.length := by omega
    have hc := hin.cell hlt2
    have HBj := hZ9 (fun h => HBAD.out j hlt2 h)
    have HMj := hZ9 (fun h => HMORE.out j hlt2 HA.out h)
    clear HBAD HMORE HGOOD
    generalize s[j] = c at *
    have hor := FiS.or_32_c c
    have hlo := FiS.letter_or_c c
    have HAC : Hid (FiS.attrC c = (FiS.isLetter c || FiS.isDig c || c == 45)) := hZ9 rfl
    have hl0 : (0 : Int) <= (j : Int) := by omega
    have hl1 : (j : Int) < (n : Int) := by omega
    generalize ((c ||| 32).toNat : Int) = z at *
    have hz : (FiS.isLetter c = true /\ decide ((97 : Int) <= z) = true /\ decide (z <= 122) = true) \/ (FiS.isLetter c = false /\ decide ((97 : Int) <= z) = false) \/ (FiS.isLetter c = false /\ decide ((97 : Int) <= z) = true /\ decide (z <= 122) = false) := by
     cases h1 : decide ((97 : Int) <= z) <;> cases h2 : decide (z <= 122) <;> rw [h1, h2] at hlo
     · exact .inr (.inl ⟨hlo.symm, rfl⟩)
     · exact .inr (.inl ⟨hlo.symm, rfl⟩)
     · exact .inr (.inr ⟨hlo.symm, rfl, rfl⟩)
     · exact .inl ⟨hlo.symm, rfl, rfl⟩
    clear hlo
    have hyes : FiS.isLetter c = true -> FiS.okI j c = true := fun h => by
     unfold FiS.okI
     split
     · exact h
     · rw [HAC.out, h]; rfl
    have HYES := hZ9 hyes
    have hmid : FiS.isLetter c = false -> FiS.okI j c = (decide (j ≠ 0) && (FiS.isDig c || c == 45)) := fun h => by
     unfold FiS.okI
     split
     · rename_i h0; rw [h]; simp [h0]
     · rename_i h0; rw [HAC.out, h]; simp [h0]
    have HMID := hZ9 hmid
    clear hyes hmid HAC
    have htail : FiS.isLetter c = false -> ∀ (P : Prop), ((j = 0 -> P) /\ (j ≠ 0 -> c.toNat = 45 -> P) /\ (j ≠ 0 -> c.toNat ≠ 45 -> c.toNat < 48 -> P) /\ (j ≠ 0 -> c.toNat ≠ 45 -> 48 <= c.toNat -> 57 < c.toNat -> P) /\ (j ≠ 0 -> c.toNat ≠ 45 -> 48 <= c.toNat -> c.toNat <= 57 -> P)) -> P := fun _ P ⟨p1, p2, p3, p4, p5⟩ => by
     by_cases h0 : j = 0
     · exact p1 h0
     · by_cases h1 : c.toNat = 45
       · exact p2 h0 h1
       · by_cases h2 : c.toNat < 48
         · exact p3 h0 h1 h2
         · by_cases h3 : c.toNat <= 57
           · exact p5 h0 h1 (by omega) h3
           · exact p4 h0 h1 (by omega) (by omega)
    have c45 : ∀ {c : UInt8}, c.toNat = 45 -> c = 45 := fun h => UInt8.toNat_inj.1 (by rw [h]; rfl)
    rcases hz with ⟨hL, z1, z2⟩ | ⟨hL, z1⟩ | ⟨hL, z1, z2⟩
    · have HM2 := hZ9 (HMj.out (HYES.out hL))
      clear HMj HBj HYES HMID htail
      go_wp2_with fail
      go_roundw
      case rel => exact ⟨j + 1, by omega, by go_num, HM2, hin, hb⟩
      case measure => simp [intOf]; omega
    all_goals
     have HOK := hZ9 (HMID.out hL)
     clear HYES HMID
     refine htail hL _ ⟨fun h0 => ?_, fun h0 h1 => ?_, fun h0 h1 h2 => ?_, fun h0 h1 h2 h3 => ?_, fun h0 h1 h2 h3 => ?_⟩
     · have hR := HBj.out (by rw [HOK.out]; simp [h0])
       subst h0
       clear HBj HMj HOK htail
       go_wp2_with fail
       go_ret
       exact ⟨by rw [hR]; rfl, hb⟩
     · have HM2 := hZ9 (HMj.out (by rw [HOK.out, c45 h1]; simp [h0]))
       have g0 : ((j : Int) == 0) = false := by simpa using h0
       have g1 : ((c.toNat : Int) != 45) = false := by simp; omega
       clear HBj HMj HOK htail
       go_wp2_with fail
       go_roundw
       case rel => exact ⟨j + 1, by omega, by go_num, HM2, hin, hb⟩
       case measure => simp [intOf]; omega
     · have hne : (c == 45) = false := by
        cases h : c == 45
        · rfl
        · have := eq_of_beq h; subst this; exact absurd rfl h1
       have hR := HBj.out (by rw [HOK.out, hne]; simp [FiS.isDig]; omega)
       have g0 : ((j : Int) == 0) = false := by simpa using h0
       have g1 : ((c.toNat : Int) != 45) = true := by simp; omega
       have g2 : decide ((c.toNat : Int) < 48) = true := decide_eq_true (by omega)
       clear HBj HMj HOK htail
       go_wp2_with fail
       go_ret
       exact ⟨by rw [hR]; rfl, hb⟩
     · have hne : (c == 45) = false := by
        cases h : c == 45
        · rfl
        · have := eq_of_beq h; subst this; exact absurd rfl h1
       have hR := HBj.out (by rw [HOK.out, hne]; simp [FiS.isDig]; omega)
       have g0 : ((j : Int) == 0) = false := by simpa using h0
       have g1 : ((c.toNat : Int) != 45) = true := by simp; omega
       have g2 : decide ((c.toNat : Int) < 48) = false := decide_eq_false (by omega)
       have g3 : decide ((57 : Int) < (c.toNat : Int)) = true := decide_eq_true (by omega)
       clear HBj HMj HOK htail
       go_wp2_with fail
       go_ret
       exact ⟨by rw [hR]; rfl, hb⟩
     · have HM2 := hZ9 (HMj.out (by rw [HOK.out]; simp [FiS.isDig, h0]; omega))
       have g0 : ((j : Int) == 0) = false := by simpa using h0
       have g1 : ((c.toNat : Int) != 45) = true := by simp; omega
       have g2 : decide ((c.toNat : Int) < 48) = false := decide_eq_false (by omega)
       have g3 : decide ((57 : Int) < (c.toNat : Int)) = false := decide_eq_false (by omega)
       clear HBj HMj HOK htail
       go_wp2_with fail
       go_roundw
       case rel => exact ⟨j + 1, by omega, by go_num, HM2, hin, hb⟩
       case measure => simp [intOf]; omega
  · have hR := HGOOD.out (fun i hi => HA.out i hi (by omega))
    clear HBAD HMORE HGOOD HA
    cases hs0 : s.isEmpty with
    | true =>
     have h2 : s = [] := List.isEmpty_iff.1 hs0
     rw [hs0] at hR
     have hR : R = false := hR
     subst h2
     go_wp2_with fail
     go_ret
     exact ⟨by rw [hR]; rfl, hb⟩
    | false =>
     have h2 : (s == []) = false := by cases s <;> simp_all
     have h3 : ¬ s = [] := fun h => by rw [h] at hs0; cases hs0
     rw [hs0, hn] at hR
     have hR : R = decide (n <= 40) := hR
     have e : decide ((n : Int) <= 40) = decide (n <= 40) := decide_eq_decide.2 (by omega)
     rw [<- e] at hR
     clear e
     go_wp2_with fail
     go_ret
     exact ⟨by rw [hR]; rfl, hb⟩
theorem refattr_c (s : List UInt8) (w : World) : Calls Tryz.prog 68 #[.string ⟨s.toArray⟩] w fun e w' => e = .returned (.bool (FiS.attrS s)) /\ w = w' := by
 by_cases hnil : s = []
 · subst hnil
   go_enter Tryz.func68, Tryz.ntmps68
   go_wp2_with fail
   go_ret
   exact ⟨rfl, rfl⟩
 have hpos : 0 < s.length := List.length_pos_iff.2 hnil
 have g1 : decide ((s.length : Int) < 1) = false := decide_eq_false (by omega)
 by_cases h40 : 40 < s.length
 · have g2 : decide ((40 : Int) < (s.length : Int)) = true := decide_eq_true (by omega)
   have HR : FiS.attrS s = false := by
    cases s with
    | nil => rfl
    | cons c r =>
     show (FiS.isLetter c && r.all FiS.attrC && decide ((c :: r).length <= 40)) = false
     rw [decide_eq_false (by omega), Bool.and_false]
   rw [HR]
   clear HR
   go_enter Tryz.func68, Tryz.ntmps68
   go_wp2_with fail
   go_ret
   exact ⟨rfl, rfl⟩
 have g2 : decide ((40 : Int) < (s.length : Int)) = false := decide_eq_false (by omega)
 have HBAD := hZ9 (fun j (hj : j < s.length) h => FiS.attr_bad hj h)
 have HGOOD := hZ9 (fun h => FiS.attr_good (s := s) h)
 have HMORE := hZ9 (fun j (hj : j < s.length) h h2 => FiS.ok_more hj h h2)
 have hlt := fun (c : UInt8) w => letter_c c w
 obtain ⟨R, hR⟩ : ∃ r, FiS.attrS s = r := ⟨_, rfl⟩
 rw [hR] at HBAD HGOOD ⊢
 have HNE : Hid (s.isEmpty = false) := hZ9 (by cases s <;> simp_all)
 have HL40 : Hid (s.length <= 40) := hZ9 (by omega)
 clear hR hnil h40
 have H0 : Hid (FiS.okI 0 (s[0]'hpos) = FiS.isLetter (s[0]'hpos)) := hZ9 rfl
 obtain ⟨c0, hc0⟩ : ∃ c, s[0]'hpos = c := ⟨_, rfl⟩
 have HC0 := hZ9 hc0
 have hq0 : ∀ h, (⟨s.toArray⟩ : ByteArray)[0]'h = c0 := fun _ => hc0
 clear hc0
 have hl0 := hlt c0 w
 obtain ⟨b0, hb0⟩ : ∃ b, FiS.isLetter c0 = b := ⟨_, rfl⟩
 rw [hb0] at hl0
 obtain ⟨n, hn⟩ : ∃ n, s.length = n := ⟨_, rfl⟩
 have HN := hZ9 hn
 rw [hn] at g1 g2 hpos
 have hp0 : (0 : Int) < (n : Int) := by omega
 have hsz : (⟨s.toArray⟩ : ByteArray).size = n := by show s.toArray.size = _; simpa using hn
 cases b0 with
 | false =>
  have hR := HBAD.out 0 (by omega) (by rw [H0.out, HC0.out]; exact hb0)
  clear HBAD HGOOD HMORE hb0 H0 HC0
  go_enter Tryz.func68, Tryz.ntmps68
  go_wp2_with fail
  refine hl0.mono ?_; rintro e w1 ⟨rfl, rfl⟩
  go_wp2_with fail
  go_ret
  exact ⟨by rw [hR]; rfl, rfl⟩
 | true =>
  have HF0 : Hid (∀ (j : Nat) (hj : j < s.length), j = 0 -> FiS.isLetter (s[j]'hj) = true) := hZ9 (fun j hj e => by subst e; rw [HC0.out]; exact hb0)
  clear hb0 H0 HC0
  go_enter Tryz.func68, Tryz.ntmps68
  go_wp2_with fail
  refine hl0.mono ?_; rintro e w1 ⟨rfl, rfl⟩
  go_wp2_with fail
  clear hl0 hq0
  go_loopw [3] (fun i wr => ∃ j : Nat, j <= n /\ i = .int .i64 j /\ Hid (∀ i (hi : i < s.length), i < j -> FiS.okI i (s[i]'hi) = true) /\ w = wr) (fun i _ => n - (intOf i).toNat)
  case atStart => exact ⟨0, Nat.zero_le _, rfl, hZ9 (fun i hi h => by omega), rfl⟩
  case round =>
   obtain ⟨j, hj, rfl, HA, rfl⟩ := hrel
   by_cases hjn : j < n
   · have hlt2 : j < s.length := by rw [HN.out]; exact hjn
     have HBj := hZ9 (fun h => HBAD.out j hlt2 h)
     have HMj := hZ9 (fun h => HMORE.out j hlt2 HA.out h)
     have hj39 : j <= 40 := by have := HL40.out; omega
     have HF := hZ9 (HF0.out j hlt2)
     clear HBAD HMORE HGOOD HF0
     generalize hcq : s[j] = c at *
     have hq2 : ∀ h, (⟨s.toArray⟩ : ByteArray)[j]'h = c := fun _ => hcq
     clear hcq
     have hlc := hlt c w
     have HAC : Hid (FiS.attrC c = (FiS.isLetter c || FiS.isDig c || c == 45)) := hZ9 rfl
     have HOK : Hid (FiS.okI j c = if j = 0 then FiS.isLetter c else FiS.attrC c) := hZ9 rfl
     have hl0 : (0 : Int) <= (j : Int) := by omega
     have hl1 : (j : Int) < (n : Int) := by omega
     obtain ⟨L, hL⟩ : ∃ b, FiS.isLetter c = b := ⟨_, rfl⟩
     have HL := hZ9 hL
     rw [hL] at hlc
     clear hL
     have c45 : ∀ {c : UInt8}, c.toNat = 45 -> c = 45 := fun h => UInt8.toNat_inj.1 (by rw [h]; rfl)
     cases L with
     | true =>
      have HM2 := hZ9 (HMj.out (by rw [HOK.out]; split; exact HL.out; rw [HAC.out, HL.out]; rfl))
      clear HMj HBj HOK HAC HL
      go_wp2_with fail
      refine hlc.mono ?_; rintro e w1 ⟨rfl, rfl⟩
      go_wp2_with fail
      go_roundw
      case rel => exact ⟨j + 1, by omega, by go_num, HM2, by trivial⟩
      case measure => simp [intOf]; omega
     | false =>
      have hj0 : j ≠ 0 := fun e => by have := HF.out e; rw [HL.out] at this; cases this
      have HOK2 : Hid (FiS.okI j c = (FiS.isDig c || c == 45)) := hZ9 (by rw [HOK.out, if_neg hj0, HAC.out, HL.out]; rfl)
      clear HOK HAC HL HF
      by_cases hd : 48 <= c.toNat /\ c.toNat <= 57
      · have HM2 := hZ9 (HMj.out (by rw [HOK2.out]; simp [FiS.isDig]; omega))
        have g3 : decide ((48 : Int) <= (c.toNat : Int)) = true := decide_eq_true (by omega)
        have g4 : decide ((c.toNat : Int) <= 57) = true := decide_eq_true (by omega)
        clear HMj HBj HOK2 hd
        go_wp2_with fail
        refine hlc.mono ?_; rintro e w1 ⟨rfl, rfl⟩
        go_wp2_with fail
        go_roundw
        case rel => exact ⟨j + 1, by omega, by go_num, HM2, by trivial⟩
        case measure => simp [intOf]; omega
      · have hdig : FiS.isDig c = false := decide_eq_false hd
        have hsplit : (decide ((48 : Int) <= (c.toNat : Int)) = false) \/ (decide ((48 : Int) <= (c.toNat : Int)) = true /\ decide ((c.toNat : Int) <= 57) = false) := by
         by_cases h : 48 <= c.toNat
         · exact .inr ⟨decide_eq_true (by omega), decide_eq_false (by omega)⟩
         · exact .inl (decide_eq_false (by omega))
        by_cases h45 : c.toNat = 45
        · have HM2 := hZ9 (HMj.out (by rw [HOK2.out, c45 h45]; simp))
          have g5 : ((c.toNat : Int) != 45) = false := by simp; omega
          clear HMj HBj HOK2 hd hdig h45
          rcases hsplit with g3 | ⟨g3, g4⟩
          all_goals
           go_wp2_with fail
           refine hlc.mono ?_; rintro e w1 ⟨rfl, rfl⟩
           go_wp2_with fail
           go_roundw
           case rel => exact ⟨j + 1, by omega, by go_num, HM2, by trivial⟩
           case measure => simp [intOf]; omega
        · have hne : (c == 45) = false := by
           cases h : c == 45
           · rfl
           · have := eq_of_beq h; subst this; exact absurd rfl h45
          have hR := HBj.out (by rw [HOK2.out, hne, hdig]; rfl)
          have g5 : ((c.toNat : Int) != 45) = true := by simp; omega
          clear HMj HBj HOK2 hd hdig hne h45
          rcases hsplit with g3 | ⟨g3, g4⟩
          all_goals
           go_wp2_with fail
           refine hlc.mono ?_; rintro e w1 ⟨rfl, rfl⟩
           go_wp2_with fail
           go_ret
           exact ⟨by rw [hR]; rfl, by trivial⟩
   · have hR := HGOOD.out (fun i hi => HA.out i hi (by have := HN.out; omega))
     have hR2 : R = true := by rw [hR, HNE.out, decide_eq_true HL40.out]; rfl
     clear HBAD HMORE HGOOD HA HF0
     go_wp2_with fail
     go_ret
     exact ⟨by rw [hR2]; rfl, by trivial⟩
end
end Go.Proofs.YtjmfknfponjgkaaGreatDoor
