/- The walk of the law ResolveRings. Condition: the library's variables are laid. -/
import Derived.Test.YtifjghkgmfmneaaGreatDoorRel
import Derived.Test.YtifjghkgmfmneaaGreatDoorOwk
import Derived.Test.YtifjghkgmfmneaaGreatDoorTai
import Derived.BigQuiet
namespace Go.Proofs.YtifjghkgmfmneaaGreatDoor
open Go.RowKit
attribute [local go_sem ↓] Go.wp_at_zero Go.wp_at_succ

theorem four_back (w : World) (c : UInt8) (z : Int) (hz : z = (c.toNat : Int)) :
    (convert 125 9 (.slice (some ⟨w.heap.size, 0, none⟩) 4 4)).run Tryz.prog (w.alloc (.cells #[.int .u8 99, .int .u8 110, .int .u8 61, .int .u8 z] 5)) = .ok (.string ⟨[99, 110, 61, c].toArray⟩) (w.alloc (.cells #[.int .u8 99, .int .u8 110, .int .u8 61, .int .u8 z] 5)) := by
  subst hz
  refine run_convert_bytes_back _ _ _ 5 ⟨w.heap.size, 0, none⟩ 4 [99, 110, 61, c] Tryz.underlying125 Tryz.underlying5 Tryz.underlying9 fun j hj => ?_
  have hadd : (⟨w.heap.size, 0, none⟩ : Addr).add j = ⟨w.heap.size, j, none⟩ := by unfold Addr.add; split <;> simp_all
  rw [hadd]
  have hw := (Whole.made w 5 #[.int .u8 99, .int .u8 110, .int .u8 61, .int .u8 (c.toNat : Int)]).cell j
  rw [hw]
  match j, hj with
  | 0, _ => rfl
  | 1, _ => rfl
  | 2, _ => rfl
  | 3, _ => rfl
  | j + 4, hj => simp at hj; omega
theorem name_val {i : Nat} (hi : i < 12) : (97 + (i : Int)) = ((UInt8.ofNat (97 + i)).toNat : Int) := by
  rw [UInt8.toNat_ofNat']; omega
set_option maxRecDepth 100000 in
theorem name13_c (i : Nat) (hi : i < 12) (w : World) : Calls Tryz.prog 33 #[.int .i64 (i : Int)] w fun e w' => e = .returned (.string ⟨(EnS.nmR i).toArray⟩) ∧ Below w.heap.size w w' := by
  have hconv := fun w => four_back w (UInt8.ofNat (97 + i)) (97 + (i : Int)) (name_val hi)
  have hnm : EnS.nmR i = [99, 110, 61, UInt8.ofNat (97 + i)] := rfl
  rw [hnm]
  generalize UInt8.ofNat (97 + i) = c at *
  go_enter Tryz.func33, Tryz.ntmps33
  go_wp2_with fail
  go_ret
  exact ⟨rfl, grow1 w _⟩
theorem infoEntryR : (Tryz.prog.info? 37).map (fun i => (i.zero, i.size, i.bytes)) = some (some (.agg #[.string ⟨#[]⟩, .slice none 0 0]), 2, 40) := by kernel_rfl
theorem ring_succ (kk i : Nat) : (List.range (i + 1)).map (EnS.enR kk) = (List.range i).map (EnS.enR kk) ++ [EnS.enR kk i] := by rw [List.range_succ, List.map_append]; rfl
theorem ring_attrs {w : World} {bA bB bC : Nat} (Ts : List TypeId) (C : Nat) (nx : List UInt8) (hA : Whole w bA 9 #[.string ⟨nx.toArray⟩]) (hB : Whole w bB 9 #[.string ⟨#[97, 108, 105, 97, 115]⟩])
    (hC : Whole w bC 47 #[.string ⟨#[97, 108, 105, 97, 115, 101, 100, 79, 98, 106, 101, 99, 116, 78, 97, 109, 101]⟩, .slice (some ⟨bA, 0, none⟩) 1 1, .string ⟨#[111, 98, 106, 101, 99, 116, 67, 108, 97, 115, 115]⟩, .slice (some ⟨bB, 0, none⟩) 1 1])
    (hs : 9 ∈ Ts) (ht : 47 ∈ Ts) : AttrsP (okT Ts C w) w (.slice (some ⟨bC, 0, none⟩) 2 2) [⟨EnS.tTarget, [nx]⟩, ⟨EnS.tClass, [EnS.tAlias]⟩] := by
  refine attrs_lit hC (.inr ⟨_, _, _, hC, ht⟩) rfl (fun j x hj => ?_)
  match j, hj with
  | 0, hj =>
    have := Option.some.inj hj; subst this
    refine ⟨rfl, _, rfl, strs_lit hA (.inr ⟨_, _, _, hA, hs⟩) rfl (fun j x hj => ?_)⟩
    match j, hj with
    | 0, hj => have := Option.some.inj hj; subst this; rfl
    | j + 1, hj => simp at hj
  | 1, hj =>
    have := Option.some.inj hj; subst this
    refine ⟨rfl, _, rfl, strs_lit hB (.inr ⟨_, _, _, hB, hs⟩) rfl (fun j x hj => ?_)⟩
    match j, hj with
    | 0, hj => have := Option.some.inj hj; subst this; rfl
    | j + 1, hj => simp at hj
  | j + 2, hj => simp at hj
theorem ring_fit {kk : Nat} (hk : kk ≤ 12) : FitE (EnS.ringR kk) := by
  refine ⟨by unfold EnS.ringR; simp; omega, fun x hx => ?_⟩
  obtain ⟨i, _, rfl⟩ := List.mem_map.1 hx
  refine ⟨by show 4 ≤ 1000000; decide, by show 2 ≤ 1048576; decide, fun y hy => ?_⟩
  unfold EnS.enR at hy
  simp only [List.mem_cons, List.not_mem_nil, or_false] at hy
  rcases hy with rfl | rfl
  · refine ⟨by show 1 ≤ 1048576; decide, fun v hv => ?_⟩
    simp only [List.mem_cons, List.not_mem_nil, or_false] at hv
    subst hv; show 4 ≤ 1000000; decide
  · refine ⟨by show 1 ≤ 1048576; decide, fun v hv => ?_⟩
    simp only [List.mem_cons, List.not_mem_nil, or_false] at hv
    subst hv; decide

set_option maxRecDepth 100000 in
set_option maxHeartbeats 1000000 in
theorem rings_c (n0 a0 : Nat) (hn : n0 < 256) (ha : a0 < 256) (rest : Bool) (w : World) (hE : Env w) :
    Calls Tryz.prog 5 #[.int .u8 (n0 : Int), .int .u8 (a0 : Int), .bool rest] w (True_ w) := by
  have HEN := Lib.hid (fun W (hb : Below w.heap.size w W) => hE.below hb)
  obtain ⟨kk, hK⟩ : ∃ kk : Nat, kk = 1 + n0 % 12 := ⟨_, rfl⟩
  have hKi : (1 : Int) + (n0 : Int) % 12 = (kk : Int) := by omega
  have hK1 : 1 ≤ kk := by omega
  have hK12 : kk ≤ 12 := by omega
  have hnm := fun (j : Nat) W (hj : j < 12) => name13_c j hj W
  obtain ⟨i0, hi, hz0, hz1, hz2⟩ := info_parts infoEntryR
  have HI := Lib.hid hi
  clear hi hK
  go_enter Tryz.func5, Tryz.ntmps5
  go_wp2_with fail
  refine (awake13_c _ hE).mono ?_; rintro e w1 ⟨rfl, hb1⟩
  clear hE
  go_wp2_with fail
  go_loopw [8, 21] (fun out j wr => ∃ i : Nat, i ≤ kk ∧ j = .int .i64 i ∧ OwnK enK 37 [9, 47] w.heap.size wr w.heap.size out ((List.range i).map (EnS.enR kk)) ∧ Below w.heap.size w wr) (fun _ j _ => kk - (intOf j).toNat)
  case atStart => exact ⟨0, Nat.zero_le _, rfl, OwnK.empty _ _ _ _ _ _, hb1⟩
  case round =>
    obtain ⟨i, hi, rfl, hown, hb⟩ := hrel
    clear hb1
    by_cases hlt : i < kk
    · have hrm : ((i : Int) + 1).tmod (kk : Int) = (((i + 1) % kk : Nat) : Int) := by rw [Int.tmod_eq_emod_of_nonneg (by omega), Int.natCast_emod]; rfl
      have hwr : IntKind.i64.wrap ((i : Int) + 1) = (i : Int) + 1 := by unfold IntKind.wrap; simp [IntKind.signed, IntKind.bits]; omega
      have hkn : ¬ kk = 0 := by omega
      have hrl : (i + 1) % kk < 12 := Nat.lt_of_lt_of_le (Nat.mod_lt _ (by omega)) hK12
      have hKz : ((kk : Int) == 0) = false := by simp; omega
      have hi12 : i < 12 := by omega
      have hbD : Below wr.heap.size wr wr.drew := below_drewN wr 1
      go_wp2_with fail
      refine head_begin 15 (fun _ => True) (by kernel_rfl) (by kernel_rfl) trivial (fun hHeld => ?_)
      refine head_take 0 ?_ (by simp only [List.length_cons, List.length_nil]; decide) (by kernel_rfl) (fun _ _ _ h => h) (by rfl) ?_ hHeld ?_
      rotate_left
      · intro W hSw; (try simp only [List.getElem_cons_zero]); (try go_split_ands); go_simp; (try with_reducible rfl)
      (try simp only [List.getElem_cons_zero, Act.put, List.setIfInBounds_toArray, List.set_cons_zero, List.set_cons_succ])
      refine head_take 1 ?_ (by simp only [List.length_cons, List.length_nil]; decide) (by kernel_rfl) (fun _ _ _ h => h) (by rfl) ?_ hHeld ?_
      rotate_left
      · intro W hSw; (try simp only [List.getElem_cons_succ, List.getElem_cons_zero]); (try go_split_ands); go_simp; (try with_reducible rfl)
      (try simp only [List.getElem_cons_succ, List.getElem_cons_zero, Act.put, List.setIfInBounds_toArray, List.set_cons_zero, List.set_cons_succ])
      refine head_take 3 ?_ (by simp only [List.length_cons, List.length_nil]; decide) (by kernel_rfl) (fun _ _ _ h => h) (by rfl) ?_ hHeld ?_
      rotate_left
      · intro W hSw; (try simp only [List.getElem_cons_succ, List.getElem_cons_zero]); (try go_split_ands); go_simp; (try with_reducible rfl)
      (try simp only [List.getElem_cons_succ, List.getElem_cons_zero, Act.put, List.setIfInBounds_toArray, List.set_cons_zero, List.set_cons_succ])
      refine head_take 4 ?_ (by simp only [List.length_cons, List.length_nil]; decide) (by kernel_rfl) (fun _ _ _ h => h) (by rfl) ?_ hHeld ?_
      rotate_left
      · intro W hSw; (try simp only [List.getElem_cons_succ, List.getElem_cons_zero]); (try go_split_ands); go_simp; (try with_reducible rfl)
      (try simp only [List.getElem_cons_succ, List.getElem_cons_zero, Act.put, List.setIfInBounds_toArray, List.set_cons_zero, List.set_cons_succ])
      refine head_take 5 ?_ (by simp only [List.length_cons, List.length_nil]; decide) (by kernel_rfl) (fun _ _ _ h => h) (by rfl) ?_ hHeld ?_
      rotate_left
      · intro W hSw; (try simp only [List.getElem_cons_succ, List.getElem_cons_zero]); (try go_split_ands); go_simp; (try with_reducible rfl)
      (try simp only [List.getElem_cons_succ, List.getElem_cons_zero, Act.put, List.setIfInBounds_toArray, List.set_cons_zero, List.set_cons_succ])
      refine head_take 6 ?_ (by simp only [List.length_cons, List.length_nil]; decide) (by kernel_rfl) (fun _ _ _ h => h) (by rfl) ?_ hHeld ?_
      rotate_left
      · intro W hSw; (try simp only [List.getElem_cons_succ, List.getElem_cons_zero]); (try go_split_ands); go_simp; (try with_reducible rfl)
      (try simp only [List.getElem_cons_succ, List.getElem_cons_zero, Act.put, List.setIfInBounds_toArray, List.set_cons_zero, List.set_cons_succ])
      refine head_two 2 10 (by simp only [List.length_cons, List.length_nil]; decide) (by simp only [List.length_cons, List.length_nil]; decide) (by kernel_rfl) (fun K hK => ?_) (fun K hK => ?_)
      · (try simp only [List.getElem_cons_succ, List.getElem_cons_zero])
        refine if_step (by rfl) ?_
        go_simp
        refine (hnm i _ hi12).mono ?_
        rintro e w2 ⟨rfl, hbn⟩
        replace hbD := hbD.trans (hbn.mono hbD.size)
        clear hbn
        (try dsimp only)
        refine hK.out _ _ ?_ (fun hHeld => ?_)
        · trivial
        clear hK K
        (try simp only [Act.put, List.setIfInBounds_toArray, List.set_cons_zero, List.set_cons_succ])
        refine head_two 7 10 (by simp only [List.length_cons, List.length_nil]; decide) (by simp only [List.length_cons, List.length_nil]; decide) (by kernel_rfl) (fun K hK => ?_) (fun K hK => ?_)
        · (try simp only [List.getElem_cons_succ, List.getElem_cons_zero])
          refine if_step (by rfl) ?_
          go_simp
          refine (hnm ((i + 1) % kk) _ hrl).mono ?_
          rintro e w7 ⟨rfl, hbn⟩
          replace hbD := hbD.trans (hbn.mono hbD.size)
          clear hbn
          (try dsimp only)
          refine hK.out _ _ ?_ (fun hHeld => ?_)
          · trivial
          clear hK K
          (try simp only [Act.put, List.setIfInBounds_toArray, List.set_cons_zero, List.set_cons_succ])
          refine head_two 8 10 (by simp only [List.length_cons, List.length_nil]; decide) (by simp only [List.length_cons, List.length_nil]; decide) (by kernel_rfl) (fun K hK => ?_) (fun K hK => ?_)
          · (try simp only [List.getElem_cons_succ, List.getElem_cons_zero])
            refine if_step (by rfl) ?_
            go_simp
            have hA := Whole.made (w7) 9 #[.string ⟨(EnS.nmR ((i + 1) % kk)).toArray⟩]
            have hgn := grow1 (w7) (.cells #[.string ⟨(EnS.nmR ((i + 1) % kk)).toArray⟩] 9)
            replace hbD := hbD.trans (hgn.mono hbD.size)
            clear hgn
            refine hK.out _ _ ?_ (fun hHeld => ?_)
            · trivial
            clear hK K
            (try simp only [List.getElem_cons_succ, List.getElem_cons_zero, Act.put, List.setIfInBounds_toArray, List.set_cons_zero, List.set_cons_succ])
            refine head_take 9 ?_ (by simp only [List.length_cons, List.length_nil]; decide) (by kernel_rfl) (fun _ _ _ h => h) (by rfl) ?_ hHeld ?_
            rotate_left
            · intro W hSw; (try simp only [List.getElem_cons_succ, List.getElem_cons_zero]); (try go_split_ands); go_simp; (try with_reducible rfl)
            (try simp only [List.getElem_cons_succ, List.getElem_cons_zero, Act.put, List.setIfInBounds_toArray, List.set_cons_zero, List.set_cons_succ])
            refine head_step 10 (by simp only [List.length_cons, List.length_nil]; decide) (by kernel_rfl) (fun K hK => ?_)
            (try simp only [List.getElem_cons_succ, List.getElem_cons_zero])
            refine if_step (by rfl) ?_
            go_simp
            have hB := Whole.made ((w7.alloc (.cells #[.string ⟨(EnS.nmR ((i + 1) % kk)).toArray⟩] 9))) 9 #[.string ⟨#[97, 108, 105, 97, 115]⟩]
            rw [show ((w7.alloc (.cells #[.string ⟨(EnS.nmR ((i + 1) % kk)).toArray⟩] 9))).heap.size = w7.heap.size + 1 from by show (w7.heap.push _).size = _; exact Array.size_push _] at hB
            have hgn := grow1 ((w7.alloc (.cells #[.string ⟨(EnS.nmR ((i + 1) % kk)).toArray⟩] 9))) (.cells #[.string ⟨#[97, 108, 105, 97, 115]⟩] 9)
            have hA := hA.call hgn
            replace hbD := hbD.trans (hgn.mono hbD.size)
            clear hgn
            refine hK.out _ _ ?_ (fun hHeld => ?_)
            · trivial
            clear hK K
            (try simp only [List.getElem_cons_succ, List.getElem_cons_zero, Act.put, List.setIfInBounds_toArray, List.set_cons_zero, List.set_cons_succ])
            refine head_take 11 ?_ (by simp only [List.length_cons, List.length_nil]; decide) (by kernel_rfl) (fun _ _ _ h => h) (by rfl) ?_ hHeld ?_
            rotate_left
            · intro W hSw; (try simp only [List.getElem_cons_succ, List.getElem_cons_zero]); (try go_split_ands); go_simp; (try with_reducible rfl)
            (try simp only [List.getElem_cons_succ, List.getElem_cons_zero, Act.put, List.setIfInBounds_toArray, List.set_cons_zero, List.set_cons_succ])
            refine head_step 12 (by simp only [List.length_cons, List.length_nil]; decide) (by kernel_rfl) (fun K hK => ?_)
            (try simp only [List.getElem_cons_succ, List.getElem_cons_zero])
            refine if_step (by rfl) ?_
            generalize hW8 : ((w7.alloc (.cells #[.string ⟨(EnS.nmR ((i + 1) % kk)).toArray⟩] 9)).alloc (.cells #[.string ⟨#[97, 108, 105, 97, 115]⟩] 9)) = w8 at *
            have hC := Whole.made w8 47 #[.string ⟨#[97, 108, 105, 97, 115, 101, 100, 79, 98, 106, 101, 99, 116, 78, 97, 109, 101]⟩, .slice (some ⟨w7.heap.size, 0, none⟩) 1 1, .string ⟨#[111, 98, 106, 101, 99, 116, 67, 108, 97, 115, 115]⟩, .slice (some ⟨(w7.heap.size + 1), 0, none⟩) 1 1]
            have hg12 := grow1 w8 (.cells #[.string ⟨#[97, 108, 105, 97, 115, 101, 100, 79, 98, 106, 101, 99, 116, 78, 97, 109, 101]⟩, .slice (some ⟨w7.heap.size, 0, none⟩) 1 1, .string ⟨#[111, 98, 106, 101, 99, 116, 67, 108, 97, 115, 115]⟩, .slice (some ⟨(w7.heap.size + 1), 0, none⟩) 1 1] 47)
            have hA := hA.call hg12
            have hB := hB.call hg12
            go_simp
            refine hK.out _ _ ?_ (fun hHeld => ?_)
            · trivial
            clear hK K
            (try simp only [List.getElem_cons_succ, List.getElem_cons_zero, Act.put, List.setIfInBounds_toArray, List.set_cons_zero, List.set_cons_succ])
            refine head_take 13 ?_ (by simp only [List.length_cons, List.length_nil]; decide) (by kernel_rfl) (fun _ _ _ h => h) (by rfl) ?_ hHeld ?_
            rotate_left
            · intro W hSw; (try simp only [List.getElem_cons_succ, List.getElem_cons_zero]); (try go_split_ands); go_simp; (try with_reducible rfl)
            (try simp only [List.getElem_cons_succ, List.getElem_cons_zero, Act.put, List.setIfInBounds_toArray, List.set_cons_zero, List.set_cons_succ])
            refine head_step 14 (by simp only [List.length_cons, List.length_nil]; decide) (by kernel_rfl) (fun K hK => ?_)
            (try simp only [List.getElem_cons_succ, List.getElem_cons_zero])
            refine if_step (by rfl) ?_
            have hD := Whole.made (w8.alloc (.cells #[.string ⟨#[97, 108, 105, 97, 115, 101, 100, 79, 98, 106, 101, 99, 116, 78, 97, 109, 101]⟩, .slice (some ⟨w7.heap.size, 0, none⟩) 1 1, .string ⟨#[111, 98, 106, 101, 99, 116, 67, 108, 97, 115, 115]⟩, .slice (some ⟨(w7.heap.size + 1), 0, none⟩) 1 1] 47)) 37 #[.string ⟨(EnS.nmR i).toArray⟩, .slice (some ⟨w8.heap.size, 0, none⟩) 2 2]
            rw [alloc_size] at hD
            have hg14 := grow1 (w8.alloc (.cells #[.string ⟨#[97, 108, 105, 97, 115, 101, 100, 79, 98, 106, 101, 99, 116, 78, 97, 109, 101]⟩, .slice (some ⟨w7.heap.size, 0, none⟩) 1 1, .string ⟨#[111, 98, 106, 101, 99, 116, 67, 108, 97, 115, 115]⟩, .slice (some ⟨(w7.heap.size + 1), 0, none⟩) 1 1] 47)) (.cells #[.string ⟨(EnS.nmR i).toArray⟩, .slice (some ⟨w8.heap.size, 0, none⟩) 2 2] 37)
            have hA := hA.call hg14
            have hB := hB.call hg14
            have hC := hC.call hg14
            have hbE := (hbD.trans (hg12.mono hbD.size)).trans (hg14.mono (hbD.trans (hg12.mono hbD.size)).size)
            go_simp
            refine hK.out _ _ ?_ (fun hHeld => ?_)
            · trivial
            clear hK K
            (try simp only [List.getElem_cons_succ, List.getElem_cons_zero, Act.put, List.setIfInBounds_toArray, List.set_cons_zero, List.set_cons_succ])
            refine head_end (by kernel_rfl) ?_
            simp only [List.drop_succ_cons, List.drop_zero]
            have hownE := hown.call hbE
            have hzE := hb.trans (hbE.mono hb.size)
            have hszE := hzE.size
            have e0 := hD.cell 0
            have e1 := hD.cell 1
            simp only [List.getElem?_toArray, List.getElem?_cons_zero, List.getElem?_cons_succ] at e0 e1
            have hel := ring_attrs [9, 47] w.heap.size (EnS.nmR ((i + 1) % kk)) hA hB hC (by simp) (by simp)
            clear hA hB hC hD hW8 hbD hg12 hg14 hHeld hown
            go_wp2_with (at_builtin; refine push_k enK 37 43 [9, 47] (by decide) Tryz.underlying43 HI.out hz0 hz1 hz2 (by rfl) (by rfl) _ _ (by rfl) w.heap.size (Nat.le_refl _) _ ((List.range i).map (EnS.enR kk)) (by rfl) hownE (w8.heap.size + 1) (by rfl) (EnS.enR kk i) _ e0 e1 hel (by simp; omega) hszE ?_)
            intro v9 w9 hown9 hb9 hgw9
            rw [← ring_succ] at hown9
            go_wp2_with fail
            go_roundw
            case rel => exact ⟨i + 1, by omega, by go_num, hown9, hzE.trans hb9⟩
            case measure => simp [intOf]; omega
          · (try simp only [List.getElem_cons_succ, List.getElem_cons_zero])
            refine if_step (by rfl) ?_
            go_simp
            have hB := Whole.made (w7) 9 #[.string ⟨#[97, 108, 105, 97, 115]⟩]
            have hgn := grow1 (w7) (.cells #[.string ⟨#[97, 108, 105, 97, 115]⟩] 9)
            replace hbD := hbD.trans (hgn.mono hbD.size)
            clear hgn
            refine hK.out _ _ ?_ (fun hHeld => ?_)
            · trivial
            clear hK K
            (try simp only [List.getElem_cons_succ, List.getElem_cons_zero, Act.put, List.setIfInBounds_toArray, List.set_cons_zero, List.set_cons_succ])
            refine head_take 11 ?_ (by simp only [List.length_cons, List.length_nil]; decide) (by kernel_rfl) (fun _ _ _ h => h) (by rfl) ?_ hHeld ?_
            rotate_left
            · intro W hSw; (try simp only [List.getElem_cons_succ, List.getElem_cons_zero]); (try go_split_ands); go_simp; (try with_reducible rfl)
            (try simp only [List.getElem_cons_succ, List.getElem_cons_zero, Act.put, List.setIfInBounds_toArray, List.set_cons_zero, List.set_cons_succ])
            refine head_step 8 (by simp only [List.length_cons, List.length_nil]; decide) (by kernel_rfl) (fun K hK => ?_)
            (try simp only [List.getElem_cons_succ, List.getElem_cons_zero])
            refine if_step (by rfl) ?_
            go_simp
            have hA := Whole.made ((w7.alloc (.cells #[.string ⟨#[97, 108, 105, 97, 115]⟩] 9))) 9 #[.string ⟨(EnS.nmR ((i + 1) % kk)).toArray⟩]
            rw [show ((w7.alloc (.cells #[.string ⟨#[97, 108, 105, 97, 115]⟩] 9))).heap.size = w7.heap.size + 1 from by show (w7.heap.push _).size = _; exact Array.size_push _] at hA
            have hgn := grow1 ((w7.alloc (.cells #[.string ⟨#[97, 108, 105, 97, 115]⟩] 9))) (.cells #[.string ⟨(EnS.nmR ((i + 1) % kk)).toArray⟩] 9)
            have hB := hB.call hgn
            replace hbD := hbD.trans (hgn.mono hbD.size)
            clear hgn
            refine hK.out _ _ ?_ (fun hHeld => ?_)
            · trivial
            clear hK K
            (try simp only [List.getElem_cons_succ, List.getElem_cons_zero, Act.put, List.setIfInBounds_toArray, List.set_cons_zero, List.set_cons_succ])
            refine head_take 9 ?_ (by simp only [List.length_cons, List.length_nil]; decide) (by kernel_rfl) (fun _ _ _ h => h) (by rfl) ?_ hHeld ?_
            rotate_left
            · intro W hSw; (try simp only [List.getElem_cons_succ, List.getElem_cons_zero]); (try go_split_ands); go_simp; (try with_reducible rfl)
            (try simp only [List.getElem_cons_succ, List.getElem_cons_zero, Act.put, List.setIfInBounds_toArray, List.set_cons_zero, List.set_cons_succ])
            refine head_step 12 (by simp only [List.length_cons, List.length_nil]; decide) (by kernel_rfl) (fun K hK => ?_)
            (try simp only [List.getElem_cons_succ, List.getElem_cons_zero])
            refine if_step (by rfl) ?_
            generalize hW8 : ((w7.alloc (.cells #[.string ⟨#[97, 108, 105, 97, 115]⟩] 9)).alloc (.cells #[.string ⟨(EnS.nmR ((i + 1) % kk)).toArray⟩] 9)) = w8 at *
            have hC := Whole.made w8 47 #[.string ⟨#[97, 108, 105, 97, 115, 101, 100, 79, 98, 106, 101, 99, 116, 78, 97, 109, 101]⟩, .slice (some ⟨(w7.heap.size + 1), 0, none⟩) 1 1, .string ⟨#[111, 98, 106, 101, 99, 116, 67, 108, 97, 115, 115]⟩, .slice (some ⟨w7.heap.size, 0, none⟩) 1 1]
            have hg12 := grow1 w8 (.cells #[.string ⟨#[97, 108, 105, 97, 115, 101, 100, 79, 98, 106, 101, 99, 116, 78, 97, 109, 101]⟩, .slice (some ⟨(w7.heap.size + 1), 0, none⟩) 1 1, .string ⟨#[111, 98, 106, 101, 99, 116, 67, 108, 97, 115, 115]⟩, .slice (some ⟨w7.heap.size, 0, none⟩) 1 1] 47)
            have hA := hA.call hg12
            have hB := hB.call hg12
            go_simp
            refine hK.out _ _ ?_ (fun hHeld => ?_)
            · trivial
            clear hK K
            (try simp only [List.getElem_cons_succ, List.getElem_cons_zero, Act.put, List.setIfInBounds_toArray, List.set_cons_zero, List.set_cons_succ])
            refine head_take 13 ?_ (by simp only [List.length_cons, List.length_nil]; decide) (by kernel_rfl) (fun _ _ _ h => h) (by rfl) ?_ hHeld ?_
            rotate_left
            · intro W hSw; (try simp only [List.getElem_cons_succ, List.getElem_cons_zero]); (try go_split_ands); go_simp; (try with_reducible rfl)
            (try simp only [List.getElem_cons_succ, List.getElem_cons_zero, Act.put, List.setIfInBounds_toArray, List.set_cons_zero, List.set_cons_succ])
            refine head_step 14 (by simp only [List.length_cons, List.length_nil]; decide) (by kernel_rfl) (fun K hK => ?_)
            (try simp only [List.getElem_cons_succ, List.getElem_cons_zero])
            refine if_step (by rfl) ?_
            have hD := Whole.made (w8.alloc (.cells #[.string ⟨#[97, 108, 105, 97, 115, 101, 100, 79, 98, 106, 101, 99, 116, 78, 97, 109, 101]⟩, .slice (some ⟨(w7.heap.size + 1), 0, none⟩) 1 1, .string ⟨#[111, 98, 106, 101, 99, 116, 67, 108, 97, 115, 115]⟩, .slice (some ⟨w7.heap.size, 0, none⟩) 1 1] 47)) 37 #[.string ⟨(EnS.nmR i).toArray⟩, .slice (some ⟨w8.heap.size, 0, none⟩) 2 2]
            rw [alloc_size] at hD
            have hg14 := grow1 (w8.alloc (.cells #[.string ⟨#[97, 108, 105, 97, 115, 101, 100, 79, 98, 106, 101, 99, 116, 78, 97, 109, 101]⟩, .slice (some ⟨(w7.heap.size + 1), 0, none⟩) 1 1, .string ⟨#[111, 98, 106, 101, 99, 116, 67, 108, 97, 115, 115]⟩, .slice (some ⟨w7.heap.size, 0, none⟩) 1 1] 47)) (.cells #[.string ⟨(EnS.nmR i).toArray⟩, .slice (some ⟨w8.heap.size, 0, none⟩) 2 2] 37)
            have hA := hA.call hg14
            have hB := hB.call hg14
            have hC := hC.call hg14
            have hbE := (hbD.trans (hg12.mono hbD.size)).trans (hg14.mono (hbD.trans (hg12.mono hbD.size)).size)
            go_simp
            refine hK.out _ _ ?_ (fun hHeld => ?_)
            · trivial
            clear hK K
            (try simp only [List.getElem_cons_succ, List.getElem_cons_zero, Act.put, List.setIfInBounds_toArray, List.set_cons_zero, List.set_cons_succ])
            refine head_end (by kernel_rfl) ?_
            simp only [List.drop_succ_cons, List.drop_zero]
            have hownE := hown.call hbE
            have hzE := hb.trans (hbE.mono hb.size)
            have hszE := hzE.size
            have e0 := hD.cell 0
            have e1 := hD.cell 1
            simp only [List.getElem?_toArray, List.getElem?_cons_zero, List.getElem?_cons_succ] at e0 e1
            have hel := ring_attrs [9, 47] w.heap.size (EnS.nmR ((i + 1) % kk)) hA hB hC (by simp) (by simp)
            clear hA hB hC hD hW8 hbD hg12 hg14 hHeld hown
            go_wp2_with (at_builtin; refine push_k enK 37 43 [9, 47] (by decide) Tryz.underlying43 HI.out hz0 hz1 hz2 (by rfl) (by rfl) _ _ (by rfl) w.heap.size (Nat.le_refl _) _ ((List.range i).map (EnS.enR kk)) (by rfl) hownE (w8.heap.size + 1) (by rfl) (EnS.enR kk i) _ e0 e1 hel (by simp; omega) hszE ?_)
            intro v9 w9 hown9 hb9 hgw9
            rw [← ring_succ] at hown9
            go_wp2_with fail
            go_roundw
            case rel => exact ⟨i + 1, by omega, by go_num, hown9, hzE.trans hb9⟩
            case measure => simp [intOf]; omega
        · (try simp only [List.getElem_cons_succ, List.getElem_cons_zero])
          refine if_step (by rfl) ?_
          go_simp
          have hB := Whole.made (w2) 9 #[.string ⟨#[97, 108, 105, 97, 115]⟩]
          have hgn := grow1 (w2) (.cells #[.string ⟨#[97, 108, 105, 97, 115]⟩] 9)
          replace hbD := hbD.trans (hgn.mono hbD.size)
          clear hgn
          refine hK.out _ _ ?_ (fun hHeld => ?_)
          · trivial
          clear hK K
          (try simp only [List.getElem_cons_succ, List.getElem_cons_zero, Act.put, List.setIfInBounds_toArray, List.set_cons_zero, List.set_cons_succ])
          refine head_take 11 ?_ (by simp only [List.length_cons, List.length_nil]; decide) (by kernel_rfl) (fun _ _ _ h => h) (by rfl) ?_ hHeld ?_
          rotate_left
          · intro W hSw; (try simp only [List.getElem_cons_succ, List.getElem_cons_zero]); (try go_split_ands); go_simp; (try with_reducible rfl)
          (try simp only [List.getElem_cons_succ, List.getElem_cons_zero, Act.put, List.setIfInBounds_toArray, List.set_cons_zero, List.set_cons_succ])
          refine head_step 7 (by simp only [List.length_cons, List.length_nil]; decide) (by kernel_rfl) (fun K hK => ?_)
          (try simp only [List.getElem_cons_succ, List.getElem_cons_zero])
          refine if_step (by rfl) ?_
          go_simp
          refine (hnm ((i + 1) % kk) _ hrl).mono ?_
          rintro e w7 ⟨rfl, hbn⟩
          have hB := hB.call hbn
          replace hbD := hbD.trans (hbn.mono hbD.size)
          clear hbn
          (try dsimp only)
          refine hK.out _ _ ?_ (fun hHeld => ?_)
          · trivial
          clear hK K
          (try simp only [Act.put, List.setIfInBounds_toArray, List.set_cons_zero, List.set_cons_succ])
          refine head_step 8 (by simp only [List.length_cons, List.length_nil]; decide) (by kernel_rfl) (fun K hK => ?_)
          (try simp only [List.getElem_cons_succ, List.getElem_cons_zero])
          refine if_step (by rfl) ?_
          go_simp
          have hA := Whole.made (w7) 9 #[.string ⟨(EnS.nmR ((i + 1) % kk)).toArray⟩]
          have hgn := grow1 (w7) (.cells #[.string ⟨(EnS.nmR ((i + 1) % kk)).toArray⟩] 9)
          have hB := hB.call hgn
          replace hbD := hbD.trans (hgn.mono hbD.size)
          clear hgn
          refine hK.out _ _ ?_ (fun hHeld => ?_)
          · trivial
          clear hK K
          (try simp only [List.getElem_cons_succ, List.getElem_cons_zero, Act.put, List.setIfInBounds_toArray, List.set_cons_zero, List.set_cons_succ])
          refine head_take 9 ?_ (by simp only [List.length_cons, List.length_nil]; decide) (by kernel_rfl) (fun _ _ _ h => h) (by rfl) ?_ hHeld ?_
          rotate_left
          · intro W hSw; (try simp only [List.getElem_cons_succ, List.getElem_cons_zero]); (try go_split_ands); go_simp; (try with_reducible rfl)
          (try simp only [List.getElem_cons_succ, List.getElem_cons_zero, Act.put, List.setIfInBounds_toArray, List.set_cons_zero, List.set_cons_succ])
          refine head_step 12 (by simp only [List.length_cons, List.length_nil]; decide) (by kernel_rfl) (fun K hK => ?_)
          (try simp only [List.getElem_cons_succ, List.getElem_cons_zero])
          refine if_step (by rfl) ?_
          generalize hW8 : (w7.alloc (.cells #[.string ⟨(EnS.nmR ((i + 1) % kk)).toArray⟩] 9)) = w8 at *
          have hC := Whole.made w8 47 #[.string ⟨#[97, 108, 105, 97, 115, 101, 100, 79, 98, 106, 101, 99, 116, 78, 97, 109, 101]⟩, .slice (some ⟨w7.heap.size, 0, none⟩) 1 1, .string ⟨#[111, 98, 106, 101, 99, 116, 67, 108, 97, 115, 115]⟩, .slice (some ⟨w2.heap.size, 0, none⟩) 1 1]
          have hg12 := grow1 w8 (.cells #[.string ⟨#[97, 108, 105, 97, 115, 101, 100, 79, 98, 106, 101, 99, 116, 78, 97, 109, 101]⟩, .slice (some ⟨w7.heap.size, 0, none⟩) 1 1, .string ⟨#[111, 98, 106, 101, 99, 116, 67, 108, 97, 115, 115]⟩, .slice (some ⟨w2.heap.size, 0, none⟩) 1 1] 47)
          have hA := hA.call hg12
          have hB := hB.call hg12
          go_simp
          refine hK.out _ _ ?_ (fun hHeld => ?_)
          · trivial
          clear hK K
          (try simp only [List.getElem_cons_succ, List.getElem_cons_zero, Act.put, List.setIfInBounds_toArray, List.set_cons_zero, List.set_cons_succ])
          refine head_take 13 ?_ (by simp only [List.length_cons, List.length_nil]; decide) (by kernel_rfl) (fun _ _ _ h => h) (by rfl) ?_ hHeld ?_
          rotate_left
          · intro W hSw; (try simp only [List.getElem_cons_succ, List.getElem_cons_zero]); (try go_split_ands); go_simp; (try with_reducible rfl)
          (try simp only [List.getElem_cons_succ, List.getElem_cons_zero, Act.put, List.setIfInBounds_toArray, List.set_cons_zero, List.set_cons_succ])
          refine head_step 14 (by simp only [List.length_cons, List.length_nil]; decide) (by kernel_rfl) (fun K hK => ?_)
          (try simp only [List.getElem_cons_succ, List.getElem_cons_zero])
          refine if_step (by rfl) ?_
          have hD := Whole.made (w8.alloc (.cells #[.string ⟨#[97, 108, 105, 97, 115, 101, 100, 79, 98, 106, 101, 99, 116, 78, 97, 109, 101]⟩, .slice (some ⟨w7.heap.size, 0, none⟩) 1 1, .string ⟨#[111, 98, 106, 101, 99, 116, 67, 108, 97, 115, 115]⟩, .slice (some ⟨w2.heap.size, 0, none⟩) 1 1] 47)) 37 #[.string ⟨(EnS.nmR i).toArray⟩, .slice (some ⟨w8.heap.size, 0, none⟩) 2 2]
          rw [alloc_size] at hD
          have hg14 := grow1 (w8.alloc (.cells #[.string ⟨#[97, 108, 105, 97, 115, 101, 100, 79, 98, 106, 101, 99, 116, 78, 97, 109, 101]⟩, .slice (some ⟨w7.heap.size, 0, none⟩) 1 1, .string ⟨#[111, 98, 106, 101, 99, 116, 67, 108, 97, 115, 115]⟩, .slice (some ⟨w2.heap.size, 0, none⟩) 1 1] 47)) (.cells #[.string ⟨(EnS.nmR i).toArray⟩, .slice (some ⟨w8.heap.size, 0, none⟩) 2 2] 37)
          have hA := hA.call hg14
          have hB := hB.call hg14
          have hC := hC.call hg14
          have hbE := (hbD.trans (hg12.mono hbD.size)).trans (hg14.mono (hbD.trans (hg12.mono hbD.size)).size)
          go_simp
          refine hK.out _ _ ?_ (fun hHeld => ?_)
          · trivial
          clear hK K
          (try simp only [List.getElem_cons_succ, List.getElem_cons_zero, Act.put, List.setIfInBounds_toArray, List.set_cons_zero, List.set_cons_succ])
          refine head_end (by kernel_rfl) ?_
          simp only [List.drop_succ_cons, List.drop_zero]
          have hownE := hown.call hbE
          have hzE := hb.trans (hbE.mono hb.size)
          have hszE := hzE.size
          have e0 := hD.cell 0
          have e1 := hD.cell 1
          simp only [List.getElem?_toArray, List.getElem?_cons_zero, List.getElem?_cons_succ] at e0 e1
          have hel := ring_attrs [9, 47] w.heap.size (EnS.nmR ((i + 1) % kk)) hA hB hC (by simp) (by simp)
          clear hA hB hC hD hW8 hbD hg12 hg14 hHeld hown
          go_wp2_with (at_builtin; refine push_k enK 37 43 [9, 47] (by decide) Tryz.underlying43 HI.out hz0 hz1 hz2 (by rfl) (by rfl) _ _ (by rfl) w.heap.size (Nat.le_refl _) _ ((List.range i).map (EnS.enR kk)) (by rfl) hownE (w8.heap.size + 1) (by rfl) (EnS.enR kk i) _ e0 e1 hel (by simp; omega) hszE ?_)
          intro v9 w9 hown9 hb9 hgw9
          rw [← ring_succ] at hown9
          go_wp2_with fail
          go_roundw
          case rel => exact ⟨i + 1, by omega, by go_num, hown9, hzE.trans hb9⟩
          case measure => simp [intOf]; omega
      · (try simp only [List.getElem_cons_succ, List.getElem_cons_zero])
        refine if_step (by rfl) ?_
        go_simp
        have hB := Whole.made (wr) 9 #[.string ⟨#[97, 108, 105, 97, 115]⟩]
        have hgn := grow1 (wr) (.cells #[.string ⟨#[97, 108, 105, 97, 115]⟩] 9)
        replace hbD : Below wr.heap.size wr ((wr.alloc (.cells #[.string ⟨#[97, 108, 105, 97, 115]⟩] 9)).drew) := (grow1 wr _).drew
        have hB := hB.drew
        clear hgn
        refine hK.out _ _ ?_ (fun hHeld => ?_)
        · trivial
        clear hK K
        (try simp only [List.getElem_cons_succ, List.getElem_cons_zero, Act.put, List.setIfInBounds_toArray, List.set_cons_zero, List.set_cons_succ])
        refine head_take 11 ?_ (by simp only [List.length_cons, List.length_nil]; decide) (by kernel_rfl) (fun _ _ _ h => h) (by rfl) ?_ hHeld ?_
        rotate_left
        · intro W hSw; (try simp only [List.getElem_cons_succ, List.getElem_cons_zero]); (try go_split_ands); go_simp; (try with_reducible rfl)
        (try simp only [List.getElem_cons_succ, List.getElem_cons_zero, Act.put, List.setIfInBounds_toArray, List.set_cons_zero, List.set_cons_succ])
        refine head_step 2 (by simp only [List.length_cons, List.length_nil]; decide) (by kernel_rfl) (fun K hK => ?_)
        (try simp only [List.getElem_cons_succ, List.getElem_cons_zero])
        refine if_step (by rfl) ?_
        go_simp
        refine (hnm i _ hi12).mono ?_
        rintro e w2 ⟨rfl, hbn⟩
        have hB := hB.call hbn
        replace hbD := hbD.trans (hbn.mono hbD.size)
        clear hbn
        (try dsimp only)
        refine hK.out _ _ ?_ (fun hHeld => ?_)
        · trivial
        clear hK K
        (try simp only [Act.put, List.setIfInBounds_toArray, List.set_cons_zero, List.set_cons_succ])
        refine head_step 7 (by simp only [List.length_cons, List.length_nil]; decide) (by kernel_rfl) (fun K hK => ?_)
        (try simp only [List.getElem_cons_succ, List.getElem_cons_zero])
        refine if_step (by rfl) ?_
        go_simp
        refine (hnm ((i + 1) % kk) _ hrl).mono ?_
        rintro e w7 ⟨rfl, hbn⟩
        have hB := hB.call hbn
        replace hbD := hbD.trans (hbn.mono hbD.size)
        clear hbn
        (try dsimp only)
        refine hK.out _ _ ?_ (fun hHeld => ?_)
        · trivial
        clear hK K
        (try simp only [Act.put, List.setIfInBounds_toArray, List.set_cons_zero, List.set_cons_succ])
        refine head_step 8 (by simp only [List.length_cons, List.length_nil]; decide) (by kernel_rfl) (fun K hK => ?_)
        (try simp only [List.getElem_cons_succ, List.getElem_cons_zero])
        refine if_step (by rfl) ?_
        go_simp
        have hA := Whole.made (w7) 9 #[.string ⟨(EnS.nmR ((i + 1) % kk)).toArray⟩]
        have hgn := grow1 (w7) (.cells #[.string ⟨(EnS.nmR ((i + 1) % kk)).toArray⟩] 9)
        have hB := hB.call hgn
        replace hbD := hbD.trans (hgn.mono hbD.size)
        clear hgn
        refine hK.out _ _ ?_ (fun hHeld => ?_)
        · trivial
        clear hK K
        (try simp only [List.getElem_cons_succ, List.getElem_cons_zero, Act.put, List.setIfInBounds_toArray, List.set_cons_zero, List.set_cons_succ])
        refine head_take 9 ?_ (by simp only [List.length_cons, List.length_nil]; decide) (by kernel_rfl) (fun _ _ _ h => h) (by rfl) ?_ hHeld ?_
        rotate_left
        · intro W hSw; (try simp only [List.getElem_cons_succ, List.getElem_cons_zero]); (try go_split_ands); go_simp; (try with_reducible rfl)
        (try simp only [List.getElem_cons_succ, List.getElem_cons_zero, Act.put, List.setIfInBounds_toArray, List.set_cons_zero, List.set_cons_succ])
        refine head_step 12 (by simp only [List.length_cons, List.length_nil]; decide) (by kernel_rfl) (fun K hK => ?_)
        (try simp only [List.getElem_cons_succ, List.getElem_cons_zero])
        refine if_step (by rfl) ?_
        generalize hW8 : (w7.alloc (.cells #[.string ⟨(EnS.nmR ((i + 1) % kk)).toArray⟩] 9)) = w8 at *
        have hC := Whole.made w8 47 #[.string ⟨#[97, 108, 105, 97, 115, 101, 100, 79, 98, 106, 101, 99, 116, 78, 97, 109, 101]⟩, .slice (some ⟨w7.heap.size, 0, none⟩) 1 1, .string ⟨#[111, 98, 106, 101, 99, 116, 67, 108, 97, 115, 115]⟩, .slice (some ⟨wr.heap.size, 0, none⟩) 1 1]
        have hg12 := grow1 w8 (.cells #[.string ⟨#[97, 108, 105, 97, 115, 101, 100, 79, 98, 106, 101, 99, 116, 78, 97, 109, 101]⟩, .slice (some ⟨w7.heap.size, 0, none⟩) 1 1, .string ⟨#[111, 98, 106, 101, 99, 116, 67, 108, 97, 115, 115]⟩, .slice (some ⟨wr.heap.size, 0, none⟩) 1 1] 47)
        have hA := hA.call hg12
        have hB := hB.call hg12
        go_simp
        refine hK.out _ _ ?_ (fun hHeld => ?_)
        · trivial
        clear hK K
        (try simp only [List.getElem_cons_succ, List.getElem_cons_zero, Act.put, List.setIfInBounds_toArray, List.set_cons_zero, List.set_cons_succ])
        refine head_take 13 ?_ (by simp only [List.length_cons, List.length_nil]; decide) (by kernel_rfl) (fun _ _ _ h => h) (by rfl) ?_ hHeld ?_
        rotate_left
        · intro W hSw; (try simp only [List.getElem_cons_succ, List.getElem_cons_zero]); (try go_split_ands); go_simp; (try with_reducible rfl)
        (try simp only [List.getElem_cons_succ, List.getElem_cons_zero, Act.put, List.setIfInBounds_toArray, List.set_cons_zero, List.set_cons_succ])
        refine head_step 14 (by simp only [List.length_cons, List.length_nil]; decide) (by kernel_rfl) (fun K hK => ?_)
        (try simp only [List.getElem_cons_succ, List.getElem_cons_zero])
        refine if_step (by rfl) ?_
        have hD := Whole.made (w8.alloc (.cells #[.string ⟨#[97, 108, 105, 97, 115, 101, 100, 79, 98, 106, 101, 99, 116, 78, 97, 109, 101]⟩, .slice (some ⟨w7.heap.size, 0, none⟩) 1 1, .string ⟨#[111, 98, 106, 101, 99, 116, 67, 108, 97, 115, 115]⟩, .slice (some ⟨wr.heap.size, 0, none⟩) 1 1] 47)) 37 #[.string ⟨(EnS.nmR i).toArray⟩, .slice (some ⟨w8.heap.size, 0, none⟩) 2 2]
        rw [alloc_size] at hD
        have hg14 := grow1 (w8.alloc (.cells #[.string ⟨#[97, 108, 105, 97, 115, 101, 100, 79, 98, 106, 101, 99, 116, 78, 97, 109, 101]⟩, .slice (some ⟨w7.heap.size, 0, none⟩) 1 1, .string ⟨#[111, 98, 106, 101, 99, 116, 67, 108, 97, 115, 115]⟩, .slice (some ⟨wr.heap.size, 0, none⟩) 1 1] 47)) (.cells #[.string ⟨(EnS.nmR i).toArray⟩, .slice (some ⟨w8.heap.size, 0, none⟩) 2 2] 37)
        have hA := hA.call hg14
        have hB := hB.call hg14
        have hC := hC.call hg14
        have hbE := (hbD.trans (hg12.mono hbD.size)).trans (hg14.mono (hbD.trans (hg12.mono hbD.size)).size)
        go_simp
        refine hK.out _ _ ?_ (fun hHeld => ?_)
        · trivial
        clear hK K
        (try simp only [List.getElem_cons_succ, List.getElem_cons_zero, Act.put, List.setIfInBounds_toArray, List.set_cons_zero, List.set_cons_succ])
        refine head_end (by kernel_rfl) ?_
        simp only [List.drop_succ_cons, List.drop_zero]
        have hownE := hown.call hbE
        have hzE := hb.trans (hbE.mono hb.size)
        have hszE := hzE.size
        have e0 := hD.cell 0
        have e1 := hD.cell 1
        simp only [List.getElem?_toArray, List.getElem?_cons_zero, List.getElem?_cons_succ] at e0 e1
        have hel := ring_attrs [9, 47] w.heap.size (EnS.nmR ((i + 1) % kk)) hA hB hC (by simp) (by simp)
        clear hA hB hC hD hW8 hbD hg12 hg14 hHeld hown
        go_wp2_with (at_builtin; refine push_k enK 37 43 [9, 47] (by decide) Tryz.underlying43 HI.out hz0 hz1 hz2 (by rfl) (by rfl) _ _ (by rfl) w.heap.size (Nat.le_refl _) _ ((List.range i).map (EnS.enR kk)) (by rfl) hownE (w8.heap.size + 1) (by rfl) (EnS.enR kk i) _ e0 e1 hel (by simp; omega) hszE ?_)
        intro v9 w9 hown9 hb9 hgw9
        rw [← ring_succ] at hown9
        go_wp2_with fail
        go_roundw
        case rel => exact ⟨i + 1, by omega, by go_num, hown9, hzE.trans hb9⟩
        case measure => simp [intOf]; omega
    · have hik : i = kk := by omega
      subst hik
      have hram : (a0 : Int).tmod (i : Int) = (((a0 % i : Nat)) : Int) := by rw [Int.tmod_eq_emod_of_nonneg (by omega), Int.natCast_emod]
      have hral : a0 % i < i := Nat.mod_lt _ (by omega)
      have hin : ¬ i = 0 := by omega
      have hf := fun U s W h hE hs => find13_c U (EnS.ringR i) s true W hE h (ring_fit hK12) hs
      unfold StepRet at hf
      have hfr := EnS.find_ring hK12 hral rest
      have hn2 := hnm (a0 % i) wr (by omega)
      have hcat : (⟨#[99, 110, 61, 120, 44]⟩ ++ ⟨(EnS.nmR (a0 % i)).toArray⟩ : ByteArray) = ⟨(EnS.preR (a0 % i)).toArray⟩ := by rw [mk_append]; rfl
      have hens : EnsIn wr _ (EnS.ringR i) := hown.ens
      have hl1 : (EnS.nmR (a0 % i)).length ≤ 1000000 := by show 4 ≤ _; decide
      have hl2 : (EnS.preR (a0 % i)).length ≤ 1000000 := by show 9 ≤ _; decide
      clear hown hnm
      go_wp2_with fail
      refine hn2.mono ?_; rintro e w2 ⟨rfl, hb2⟩
      have hz2 := hb.trans (hb2.mono hb.size)
      have hens2 := EnsP.call hens hb2
      clear hn2 hens
      cases rest with
      | false =>
        have hc := hf _ (EnS.nmR (a0 % i)) w2 hens2 (HEN.out _ hz2) hl1
        simp only [Bool.false_eq_true, if_false] at hfr
        generalize EnS.findS (EnS.ringR i) (EnS.nmR (a0 % i)) true = F at *
        obtain ⟨s1, b1, c1⟩ := F
        simp only at hfr hc
        subst hfr
        clear hf hcat hens2
        go_wp2_with fail
        refine hc.mono ?_; rintro e w3 ⟨rfl, hb3⟩
        go_wp2_with fail
        go_ret
        exact ⟨rfl, hz2.trans (hb3.mono hz2.size)⟩
      | true =>
        have hc := hf _ (EnS.preR (a0 % i)) w2 hens2 (HEN.out _ hz2) hl2
        simp only [if_true] at hfr
        generalize EnS.findS (EnS.ringR i) (EnS.preR (a0 % i)) true = F at *
        obtain ⟨s1, b1, c1⟩ := F
        simp only at hfr hc
        subst hfr
        clear hf hens2
        go_wp2_with fail
        refine hc.mono ?_; rintro e w3 ⟨rfl, hb3⟩
        go_wp2_with fail
        go_ret
        exact ⟨rfl, hz2.trans (hb3.mono hz2.size)⟩
theorem byte_of {x : Int} (h : (Lit.int .u8 x).wf = true) : ∃ n : Nat, n < 256 ∧ x = (n : Int) := by
  have h2 : 0 ≤ x ∧ x < 256 := by
    have h0 : IntKind.u8.min = 0 := by decide
    have h1 : IntKind.u8.max = 255 := by decide
    unfold Lit.wf at h
    simp only [Bool.and_eq_true, decide_eq_true_eq] at h
    rw [h0, h1] at h
    omega
  exact ⟨x.toNat, by omega, by omega⟩
theorem lawresolverings_c (x y : Int) (rest : Bool) (hx : (Lit.int .u8 x).wf = true) (hy : (Lit.int .u8 y).wf = true) (w : World) (hE : Env w) :
    Calls Tryz.prog 5 #[.int .u8 x, .int .u8 y, .bool rest] w (True_ w) := by
  obtain ⟨n, hn, rfl⟩ := byte_of hx
  obtain ⟨m, hm, rfl⟩ := byte_of hy
  exact rings_c n m hn hm rest w hE
end Go.Proofs.YtifjghkgmfmneaaGreatDoor
