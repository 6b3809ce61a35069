/- What a row's list of package-level variables gives the walks; the row's last step; a world for the witness. Conditions: as stated. -/
import Derived.ProofKit
import Derived.OpenShut
import Derived.Deep.DeepHandedRow
import Derived.Lib.LaidU8
import GoSem.PinnedTables
import Derived.KernelRfl
import Derived.Stop.LaidErr
import Derived.Lay
import Derived.ChangeSame
import Derived.Test.YtjmfknfponjgkaaGreatDoorCards
import Derived.Test.YtjmfknfponjgkaaGreatDoorTie
import Derived.Test.YtjmfknfponjgkaaGreatDoorJMem
namespace Go.Proofs.YtjmfknfponjgkaaGreatDoor
section
open Go.ChangeShapes Go.WideShapes Go.ChangeAt Go.RowKit
theorem iface_of_trod {H : Type} {enc : TypeId × Value -> H} {P : Program} {w : World} {base : Nat} {sp : Nat -> Bool} {fuel : Nat} {t : TypeId} {ms : Array (String × TypeId)} {cs : List Value} {nm : String} {d : DataW H} {p : List MemPlace}
  (hi : P.underlying t = some (.interface ms)) (h : DataW.trod enc P w base sp false fuel t cs = some (.iface nm d, p)) : ∃ u v, cs = [.iface u v] := by
 cases fuel with
 | zero => simp [DataW.trod] at h
 | succ n =>
  match cs, h with
  | [], h => simp [DataW.trod, hi] at h
  | [.iface u v], _ => exact ⟨u, v, rfl⟩
  | [.nilIface], h => simp [DataW.trod, hi] at h
  | [.bool _], h => simp [DataW.trod, hi] at h
  | _ :: _ :: _, h => simp [DataW.trod, hi] at h
  | [x], h => cases x <;> first | exact ⟨_, _, rfl⟩ | simp [DataW.trod, hi] at h
theorem sentinel_of_reads {P : Program} {w : World} {n nm : String} {d : DataW Unit} {g ti : Nat} {ms : Array (String × TypeId)} (h : Lib.VarReads P w n (.iface nm d))
  (hg : P.globalNamed n = some g) (ht : (P.globals[g]?).map (·.type) = some ti) (hi : P.underlying ti = some (.interface ms)) : ∃ tp p, w.cell? ⟨g, 0, none⟩ = some (.iface tp p) := by
 obtain ⟨g', t, cs, fuel, p, h1, h2, h3, h4⟩ := h
 obtain rfl := Option.some.inj (hg.symm.trans h1)
 obtain rfl := Option.some.inj (ht.symm.trans h2)
 obtain ⟨u, v, hc⟩ := iface_of_trod hi h4
 refine ⟨u, v, ?_⟩
 have := World.var?_cell hg h3 0
 rw [this]
 obtain ⟨l⟩ := cs
 simp only at hc
 subst hc
 rfl
section
variable {H : Type} {enc : TypeId × Value -> H} {P : Program}
theorem post_below {f : Func} {s : ChangeSpec} {apart fresh handsOn again : Bool} {W W' : World} {args : Array Value} {v : Value} {ds gs : List (DataW H)} {before pa pv : List MemPlace}
  (hW : DataW.Whole enc P f.params.toList s.vars apart W args.toList ds gs before)
  (hres : ∀ (b : Nat) (sp : Nat -> Bool) (hd : Bool), DataW.TrodAll enc P W' b sp hd f.resultTypes.toList (v.resultList f.resultTypes.size) (s.fn H (ds ++ gs)).results [])
  (hargs : ∀ sp : Nat -> Bool, (∀ p ∈ before, sp p.block = true) -> DataW.TrodAll enc P W' 0 sp true f.params.toList args.toList (s.fn H (ds ++ gs)).args pa)
  (hvars : ∀ sp : Nat -> Bool, (∀ p ∈ before, sp p.block = true) -> DataW.TrodVars enc P W' sp s.vars (s.fn H (ds ++ gs)).vars pv)
  (hps : before = pa ++ pv) (hb : Below W.heap.size W W')
  (hok : ∀ (j : Nat) (t : TypeId) (r : Value), f.resultTypes[j]? = some t -> (v.resultList f.resultTypes.size)[j]? = some r -> Value.okWide P W' .any 0 t r) :
  s.post enc P f apart fresh handsOn again W args v W' := by
 have hlt : ∀ p ∈ before, p.block < W.heap.size := fun p hp => hW.lt p hp
 have hold : ∀ p ∈ before, (fun b => decide (b < W.heap.size)) p.block = true := fun p hp => by simpa using hlt p hp
 refine ⟨ds, gs, before, [], pa, pv, hW, hres _ _ _, hargs _ hold, hvars _ hold, World.keptBut_mono (fun p hp => ⟨hp, ?_⟩) (hb.frame (· ∈ before)), fun _ => ?_⟩
 · rw [hps, List.mem_append] at hp
   exact Or.inr hp
 · obtain ⟨_, _, _, _, _, hz, hn⟩ := hW
   refine ⟨hok, _, _, ([] ++ pa) ++ pv, ⟨[] ++ pa, pv, trodAll_append (hargs _ (fun _ _ => rfl)) (hres _ _ _), hvars _ (fun _ _ => rfl), rfl, ?_, ?_⟩, ?_⟩
   · intro b off hp
     have hin : MemPlace.cell b off ∈ before := by rw [hps]; simpa using hp
     rw [hb.frozen (hlt _ hin)]
     exact hz b off hin
   · intro ha
     have := hn ha
     rw [hps] at this
     simpa using this
   · intro p hp _
     rw [hps]
     simpa using hp
theorem witness_shape {C : Checked} {os : Os} {f : FuncId} {fn : Func} {s : OpenSpec} {conds : List PathCond} {apart : Bool} {laid : List (String × DataW Unit)} (w0 : World) (args : Array Value) (hos : w0.os = os)
  (hsh : (w0.forCall (fun _ _ => 0) ⟨#[], args, []⟩).Shaped C.prog)
  (hok : Input.okWideB C.prog (w0.forCall (fun _ _ => 0) ⟨#[], args, []⟩) f ⟨#[], args, []⟩ = true)
  (hrow : s.preRow enc C.prog fn conds apart laid (w0.forCall (fun _ _ => 0) ⟨#[], args, []⟩).memory args) :
  ∃ (w : World) (tape : Tape) (i : Input), w.os = os /\ (w.forCall tape i).Shaped C.prog /\ i.vars = [] /\ Input.okWide C.prog (w.forCall tape i) .any w.heap.size f i /\
   s.preRow enc C.prog fn conds apart laid (w.forCall tape i).memory i.args /\ ({ modest := false } : Assume).holds C.prog (lone (Frame.enter C.prog f i.args .normal) [] (w.forCall tape i)) :=
 ⟨w0, fun _ _ => 0, ⟨#[], args, []⟩, hos, hsh, (Input.okWide_of_okWideB (base := 0) hok).1, (Input.okWide_of_okWideB hok).2, hrow, by
  simp only [Assume.holds]
  exact ⟨by simp, by simp, by simp, by simp, by simp⟩⟩
end
def theList : List (String × DataW Unit) := [("math/bits.deBruijn32tab", Rows.laid_math_bits_deBruijn32tab), ("math/bits.deBruijn64tab", Rows.laid_math_bits_deBruijn64tab), ("internal/strconv.uint64pow10", Rows.laid_internal_strconv_uint64pow10), ("unicode/utf8.acceptRanges", Rows.laid_unicode_utf8_acceptRanges), ("strconv.ErrRange", Rows.laid_strconv_ErrRange), ("strconv.ErrSyntax", Rows.laid_strconv_ErrSyntax), ("unicode/utf8.first", Rows.laid_unicode_utf8_first)]
theorem own : ownKnob Tryz.prog.godebug = none := by kernel_rfl
theorem listPlain : laidMetH Tryz.prog theList = laidMet Tryz.prog theList := by
 funext w
 exact MakeChecks.laidMetH_plain _ _ _ (by kernel_rfl)
theorem pinFirst : Rows.laid_unicode_utf8_first = Lib.firstData := by kernel_rfl
theorem acceptIs : (Rows.laid_unicode_utf8_acceptRanges : DataW Unit) = Lib.acceptData := by kernel_rfl
theorem env_of {W : World} (h : laidMetH Tryz.prog theList W) (hsh : W.ShapedOpen Tryz.prog) : Env W := by
 rw [listPlain] at h
 refine ⟨Tryz.laysM143.s1_3 W hsh, ?_, ?_, ?_, ?_⟩
 · obtain ⟨g, t, cs, fuel, p, h1, h2, h3, h4⟩ := Lib.laidMet.reads h (n := "internal/strconv.uint64pow10") (d := Rows.laid_internal_strconv_uint64pow10) (by simp [theList])
   obtain rfl := Option.some.inj ((show Tryz.prog.globalNamed "internal/strconv.uint64pow10" = some 5 by kernel_rfl).symm.trans h1)
   obtain rfl := Option.some.inj ((show (Tryz.prog.globals[5]?).map (·.type) = some 231 by kernel_rfl).symm.trans h2)
   have hcs := Lib.cells_of_tab (zs := Lib.pow10Tab) Tryz.underlying231 Tryz.underlying201 (by kernel_rfl) (by kernel_rfl) h4
   unfold Lib.TabIs
   rw [h3]
   obtain ⟨l⟩ := cs
   simp only at hcs
   rw [hcs]
 · exact sentinel_of_reads (Lib.laidMet.reads h (n := "strconv.ErrSyntax") (d := Rows.laid_strconv_ErrSyntax) (by simp [theList])) (by kernel_rfl) (by kernel_rfl) Tryz.underlying77
 · exact sentinel_of_reads (Lib.laidMet.reads h (n := "strconv.ErrRange") (d := Rows.laid_strconv_ErrRange) (by simp [theList])) (by kernel_rfl) (by kernel_rfl) Tryz.underlying77
 · exact utf8Tabs_of_reads (ρ := Tryz.lays260_ren) { Tryz.lays260 with } ⟨by kernel_rfl, by kernel_rfl, by kernel_rfl, by kernel_rfl, by kernel_rfl, by kernel_rfl, by kernel_rfl⟩
    (pinFirst ▸ Lib.laidMet.reads h (n := "unicode/utf8.first") (d := Rows.laid_unicode_utf8_first) (by simp [theList]))
    (acceptIs ▸ Lib.laidMet.reads h (n := "unicode/utf8.acceptRanges") (d := Rows.laid_unicode_utf8_acceptRanges) (by simp [theList]))
theorem listMet (os : Os) (args : Array Value) : laidMet Tryz.prog theList ((World.laidAll Tryz.prog os theList).forCall (fun _ _ => 0) ⟨#[], args, []⟩).memory :=
 laidMet_laidAll args (by kernel_rfl) (by kernel_rfl)
theorem listShape (os : Os) (args : Array Value) : ((World.laidAll Tryz.prog os theList).forCall (fun _ _ => 0) ⟨#[], args, []⟩).Shaped Tryz.prog :=
 World.shaped_of_ZipB (by kernel_rfl) (by kernel_rfl)
end
section
open Go.ChangeShapes Go.WideShapes Go.ChangeAt Go.RowKit Go.ChangeMaps
def headN : List Nat := [104, 97, 114, 110, 101, 115, 115, 32, 99, 56, 53, 55, 97, 56, 55, 101, 57, 50, 57, 53, 56, 53, 99, 53, 99, 54, 54, 97, 54, 101, 101, 99, 56, 101, 51, 48, 100, 102, 101, 53, 101, 49, 50, 102, 48, 102, 98, 53, 53, 102, 52, 48, 56, 97, 100, 57, 53, 51, 55, 98, 50, 53, 101, 55, 51, 99, 48, 52, 99, 98, 97, 48, 32, 99, 117, 116, 32, 97, 116, 32, 118, 101, 114, 103, 101, 114, 47, 118, 101, 114, 103, 101, 114, 108, 97, 119, 48, 55, 46, 70, 105, 108, 116, 101, 114, 69, 118, 97, 108, 115, 32, 118, 101, 114, 103, 101, 114, 47, 118, 101, 114, 103, 101, 114, 108, 97, 119, 48, 55, 46, 70, 105, 108, 116, 101, 114, 80, 105, 101, 99, 101, 115, 32, 118, 101, 114, 103, 101, 114, 47, 118, 101, 114, 103, 101, 114, 108, 97, 119, 48, 55, 46, 70, 105, 108, 116, 101, 114, 80, 114, 105, 110, 116, 115, 32, 118, 101, 114, 103, 101, 114, 47, 118, 101, 114, 103, 101, 114, 108, 97, 119, 48, 55, 46, 70, 105, 108, 116, 101, 114, 66, 97, 99, 107]
def wordN : List (List Nat) := [[104, 97, 114, 110, 101, 115, 115], [99, 56, 53, 55, 97, 56, 55, 101, 57, 50, 57, 53, 56, 53, 99, 53, 99, 54, 54, 97, 54, 101, 101, 99, 56, 101, 51, 48, 100, 102, 101, 53, 101, 49, 50, 102, 48, 102, 98, 53, 53, 102, 52, 48, 56, 97, 100, 57, 53, 51, 55, 98, 50, 53, 101, 55, 51, 99, 48, 52, 99, 98, 97, 48], [99, 117, 116], [97, 116], [118, 101, 114, 103, 101, 114, 47, 118, 101, 114, 103, 101, 114, 108, 97, 119, 48, 55, 46, 70, 105, 108, 116, 101, 114, 69, 118, 97, 108, 115], [118, 101, 114, 103, 101, 114, 47, 118, 101, 114, 103, 101, 114, 108, 97, 119, 48, 55, 46, 70, 105, 108, 116, 101, 114, 80, 105, 101, 99, 101, 115], [118, 101, 114, 103, 101, 114, 47, 118, 101, 114, 103, 101, 114, 108, 97, 119, 48, 55, 46, 70, 105, 108, 116, 101, 114, 80, 114, 105, 110, 116, 115], [118, 101, 114, 103, 101, 114, 47, 118, 101, 114, 103, 101, 114, 108, 97, 119, 48, 55, 46, 70, 105, 108, 116, 101, 114, 66, 97, 99, 107]]
theorem head_signs : Tryz.pinned.checked.prog.initOrder = String.ofList (headN.map Char.ofNat) := by kernel_rfl
theorem head_words : wordsSigns Tryz.pinned.checked.prog.initOrder.toList = wordN.map (·.map Char.ofNat) := by
 rw [head_signs, String.toList_ofList]
 kernel_rfl
theorem head_rest : behindMainWord (wordsSigns Tryz.pinned.checked.prog.initOrder.toList) = [99, 117, 116].map Char.ofNat :: (wordN.drop 3).map (·.map Char.ofNat) := by
 rw [head_words]
 kernel_rfl
theorem enters_of {P : Program} {c : List Char} {rest : List (List Char)} (h : behindMainWord (wordsSigns P.initOrder.toList) = c :: rest) (hs : stripLifts liftWords (c :: rest) = ([], c :: rest))
  (hc : (c == "cut".toList) = true) (hl : P.laysLater = false) (hr : P.bearsReflect = false) (hd : P.doorFits [] = true) : P.mayEnter = true := by
 unfold Program.mayEnter
 rw [h]
 dsimp only
 rw [hs]
 refine Bool.or_eq_true_iff.2 (.inr ?_)
 show ((some c == some "cut".toList) && (false || !P.laysLater) && (false || !P.bearsReflect) && (false || !false) && P.doorFits []) = true
 rw [hl, hr, hd, Option.some_beq_some, hc]
 rfl
theorem strip_none : stripLifts liftWords ([99, 117, 116].map Char.ofNat :: (wordN.drop 3).map (·.map Char.ofNat)) = ([], [99, 117, 116].map Char.ofNat :: (wordN.drop 3).map (·.map Char.ofNat)) := by kernel_rfl
theorem shared_enters : Tryz.pinned.checked.prog.mayEnter = true :=
 enters_of head_rest strip_none (by kernel_rfl) (by kernel_rfl) (by kernel_rfl) (by kernel_rfl)
theorem shared_lifts : Tryz.pinned.checked.prog.liftsFinal = false := by
 unfold Program.liftsFinal Program.headLifts
 rw [head_rest, strip_none]
 kernel_rfl
theorem shared_make : Tryz.pinned.checked.prog.make = some .cut := by
 unfold Program.make
 rw [head_rest]
 kernel_rfl
end
section
open Go.ChangeShapes Go.WideShapes Go.ChangeAt Go.RowKit Go.ChangeMaps
theorem shared_laid : laidOutB Tryz.pinned.checked.prog = true := by kernel_rfl
theorem shared_maps : mapsRowed Tryz.pinned.checked.prog = true := by kernel_rfl
theorem shared_looks : true = Tryz.pinned.checked.prog.looks [] := by kernel_rfl
end
end Go.Proofs.YtjmfknfponjgkaaGreatDoor
