/- What the package-level variables of the library hold, as this seat's contracts ask it; it is kept by whatever writes new blocks alone. -/
import Derived.Test.YtjjbkldlgjllnaaGreatDoorShelf
import Derived.Test.YtjjbkldlgjllnaaGreatDoorPhS
import Derived.Test.YtjjbkldlgjllnaaGreatDoorFl
import Derived.Test.YtjjbkldlgjllnaaGreatDoorMem
import Derived.WalkKit
import Derived.WalkSpells
import Derived.WalkLawsBesides
import Derived.Lib.Hide
import Derived.Handy
import Derived.Deep.Draws
import Derived.Deep.RegionWith
import Derived.Deep.QuietTactic
import Derived.BigQuiet
namespace Go.Proofs.YtjjbkldlgjllnaaGreatDoor
open Go.RowKit

structure Env (w : World) : Prop where
  maxLen : ∃ m, w.cell? ⟨0, 0, none⟩ = some (.int .i64 m)
  pow : Lib.TabIs Tryz.prog w "internal/strconv.uint64pow10" .u64 Lib.pow10Tab
  syn : ∃ tp p, w.cell? ⟨1, 0, none⟩ = some (.iface tp p)
  rng : ∃ tp p, w.cell? ⟨2, 0, none⟩ = some (.iface tp p)
  utf : Lib.Utf8Tabs 4 5 w

theorem var_below {w w' : World} {n : String} {cs : Array Value} (hb : Below w.heap.size w w') (h : w.var? Tryz.prog n = some cs) : w'.var? Tryz.prog n = some cs := by
  unfold World.var? at h ⊢
  cases hg : Tryz.prog.globalNamed n with
  | none => rw [hg] at h; cases h
  | some g =>
    rw [hg] at h
    have hlt : g < w.heap.size := by
      rcases Nat.lt_or_ge g w.heap.size with h' | h'
      · exact h'
      · simp [Array.getElem?_eq_none h'] at h
    simp only [Option.bind_some] at h ⊢
    rw [hb.block g hlt]
    exact h

theorem Env.below {w w' : World} (h : Env w) (hb : Below w.heap.size w w') : Env w' where
  maxLen := by obtain ⟨m, hm⟩ := h.maxLen; exact ⟨m, below_cell hb (Nat.le_refl _) hm⟩
  pow := var_below hb h.pow
  syn := by obtain ⟨m, p, hm⟩ := h.syn; exact ⟨m, p, below_cell hb (Nat.le_refl _) hm⟩
  rng := by obtain ⟨m, p, hm⟩ := h.rng; exact ⟨m, p, below_cell hb (Nat.le_refl _) hm⟩
  utf := ⟨fun c hc => below_cell hb (Nat.le_refl _) (h.utf.1 c hc), fun i hi => ⟨below_cell hb (Nat.le_refl _) (h.utf.2 i hi).1, below_cell hb (Nat.le_refl _) (h.utf.2 i hi).2⟩⟩
theorem Env.alloc {w : World} (h : Env w) (o : Obj) : Env (w.alloc o) := h.below ((Below.refl _ _).alloc (Nat.le_refl _) o)
theorem Env.drew {w : World} (h : Env w) : Env w.drew := h.below (Below.refl _ _).drew

theorem below_grow (w : World) (os : Array Obj) : Below w.heap.size w (Sort.grow w os) := by
  refine ⟨rfl, rfl, rfl, ?_, fun k hk => ?_⟩
  · show w.heap.size ≤ (w.heap ++ os).size
    simp
  · show (w.heap ++ os)[k]? = _
    rw [Array.getElem?_append_left hk]
/-! the library's contracts, in one form -/
theorem fmtInt (n : Int) (h0 : -9223372036854775808 ≤ n) (h1 : n ≤ 9223372036854775807) (w : World) (hE : Env w) :
    Calls Tryz.prog 113 #[.int .i64 n, .int .i64 10] w fun e w' => e = .returned (.string ⟨(Lib.itoa n).toArray⟩) ∧ Below w.heap.size w w' :=
  (Tryz.strconv_FormatInt_10 n h0 h1 w hE.pow).mono fun e w' ⟨he, k, os, hw⟩ => ⟨he, by rw [hw]; exact below_trans (below_drewN w k) (below_grow _ _)⟩

theorem parseInt32_ok (s : ByteArray) (hs : s.size ≤ 281474976710656) (h : (PhS.readS s.data.toList).2 = true) (w : World) :
    Calls Tryz.prog 81 #[.string s, .int .i64 10, .int .i64 32] w fun e w' => e = .returned (.tuple #[.int .i64 (PhS.readS s.data.toList).1, .nilIface]) ∧ Below w.heap.size w w' := by
  unfold PhS.readS at h ⊢
  cases hr : Lib.parseIntB 32 s.data.toList with
  | ok v =>
    refine (Tryz.strconv_ParseInt_10_at32_ok s (by omega) v hr w).mono ?_
    rintro e w' ⟨he, hw⟩
    refine ⟨he, ?_⟩
    rcases hw with rfl | ⟨t, rfl⟩
    · exact Below.refl _ _
    · exact Lib.bytesWorld_below _ _ _
  | _ => rw [hr] at h; cases h

theorem parseInt32_no (s : ByteArray) (hs : s.size ≤ 281474976710656) (h : (PhS.readS s.data.toList).2 = false) (w : World) (hE : Env w) :
    Calls Tryz.prog 81 #[.string s, .int .i64 10, .int .i64 32] w fun e w' => ∃ N, e = .returned (.tuple #[.int .i64 (PhS.readS s.data.toList).1, .iface 170 (.pointer (some ⟨N, 0, none⟩))]) ∧ Below w.heap.size w w' := by
  unfold PhS.readS at h ⊢
  obtain ⟨tp, p, hsyn⟩ := hE.syn
  obtain ⟨tp', p', hrng⟩ := hE.rng
  cases hr : Lib.parseIntB 32 s.data.toList with
  | ok v => rw [hr] at h; cases h
  | range =>
    refine (Any.strconv_ParseInt_10_at32_range Tryz.laysC174 s hs hr (.iface tp' p') w hrng (Or.inr ⟨_, _, rfl⟩)).mono ?_
    rintro e w' ⟨N, he, _, _, hb⟩
    exact ⟨N, he, hb⟩
  | _ =>
    refine (Any.strconv_ParseInt_10_at32_syntax Tryz.laysC174 s hs hr (.iface tp p) w hsyn (Or.inr ⟨_, _, rfl⟩)).mono ?_
    rintro e w' ⟨N, he, _, _, hb⟩
    exact ⟨N, he, hb⟩
end Go.Proofs.YtjjbkldlgjllnaaGreatDoor
