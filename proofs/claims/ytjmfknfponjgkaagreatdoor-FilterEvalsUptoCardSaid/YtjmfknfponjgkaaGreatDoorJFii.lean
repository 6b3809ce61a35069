/- The walks of how a filter's value is written: the document's escaped; sign, both. Conditions: as stated. -/
import Derived.StillTail
import Derived.Deep.RegionHeld3
import Derived.WalkKit
import Derived.Test.YtjmfknfponjgkaaGreatDoorJFin
import Derived.Test.YtjmfknfponjgkaaGreatDoorJRdo
set_option maxRecDepth 100000
namespace Go.Proofs.YtjmfknfponjgkaaGreatDoor
section
open Go.RowKit
open FiS (Fi)
attribute [local go_sem ↓] Go.wp_at_zero Go.wp_at_succ
theorem sign_c (k : Int) (w : World) : Calls Tryz.prog 44 #[.int .i64 k] w fun e w' => e = .returned (.string ⟨(FiS.signS k).toArray⟩) /\ w = w' := by
 by_cases h5 : k = 5
 · subst h5
   go_enter Tryz.func44, Tryz.ntmps44
   go_wp2_with fail
   go_ret
   exact ⟨rfl, rfl⟩
 by_cases h6 : k = 6
 · subst h6
   go_enter Tryz.func44, Tryz.ntmps44
   go_wp2_with fail
   go_ret
   exact ⟨rfl, rfl⟩
 by_cases h8 : k = 8
 · subst h8
   go_enter Tryz.func44, Tryz.ntmps44
   go_wp2_with fail
   go_ret
   exact ⟨rfl, rfl⟩
 have e : FiS.signS k = [61] := by unfold FiS.signS; rw [if_neg h5, if_neg h6, if_neg h8]
 rw [e]
 have g5 : (k == 5) = false := by simpa using h5
 have g6 : (k == 6) = false := by simpa using h6
 have g8 : (k == 8) = false := by simpa using h8
 clear e
 go_enter Tryz.func44, Tryz.ntmps44
 go_wp2_with fail
 go_ret
 exact ⟨rfl, rfl⟩
end
section
open Go
section
variable {P : Program} {ops : Array Oper} {Q : Exit -> Act -> World -> Prop} {md : Region.Mode} {S : World -> Prop}
def wpHead (P : Program) (md : Region.Mode) (ops : Array Oper) (Q : Exit -> Act -> World -> Prop) (S : World -> Prop) (n : Nat) (L : Array Bool -> Act -> World -> Prop) : Nat -> Array Bool -> Act -> World -> Prop
 | 0, listed, a, w => L listed a w
 | f + 1, listed, a, w => Region.ready md ops listed ≠ [] /\ ∀ i ∈ Region.ready md ops listed, i < n /\ wpOp P ops Q i (fun a' w' => S w' /\ wpHead P md ops Q S n L f (listed.setIfInBounds i true) a' w') a w
theorem wpAny_of_wpHead {n g : Nat} {L : Array Bool -> Act -> World -> Prop} (hL : ∀ listed a w, L listed a w -> wpAny P md ops Q g listed a w) :
  ∀ (f : Nat) (listed : Array Bool) (a : Act) (w : World), wpHead P md ops Q S n L f listed a w -> wpAny P md ops Q (f + g) listed a w
 | 0, listed, a, w, h => by rw [Nat.zero_add]; exact hL _ _ _ h
 | f + 1, listed, a, w, h => by
  rw [show f + 1 + g = (f + g) + 1 by omega]
  exact ⟨fun h0 => absurd h0 h.1, fun i hi => wpOp_mono (fun a' w' h' => wpAny_of_wpHead hL f _ a' w' h'.2) (h.2 i hi).2⟩
theorem wpHead_first {n i : Nat} {oi : Oper} {v : Value} {L : Array Bool -> Act -> World -> Prop} (hi : ops[i]? = some oi) (hsel : ∀ (j : Nat) (o : Oper) cs b, ops[j]? = some o -> o.op ≠ .select cs b)
  (hs : Region.sinkB md ops n = true) (hc : Region.chainB md ops n = true) (hn : n < ops.size) (hin : i < n)
  (hQ : ∀ c a w, Q (.panic c) (a.put oi.dst v) w -> Q (.panic c) a w)
  (hdone : ∀ listed a w, L listed a w -> ∀ j ∈ Region.ready md ops listed, n <= j) :
  ∀ (f : Nat) (listed : Array Bool) (a : Act) (w : World), HeadInv md ops n listed ->
   (∀ j oj, ops[j]? = some oj -> j ≠ i -> listed.getD j true = false -> (∀ e ∈ oj.after, Region.binds md e = true -> e.on ≠ i) -> oi.apart ops oj = true) ->
   i ∈ Region.ready md ops listed -> YieldsIf P ops S oi v a -> S w ->
   wpHead P md ops Q S n L f (listed.setIfInBounds i true) (a.put oi.dst v) w -> wpHead P md ops Q S n L (f + 1) listed a w := by
 intro f
 induction f with
 | zero =>
  intro listed a w inv _ hr hy hS H
  have hun := (mem_ready.1 hr).1
  refine ⟨fun h => (by rw [h] at hr; cases hr), fun j hj => ?_⟩
  have hjn : j < n := by
   rcases Nat.lt_or_ge j n with h | h
   · exact h
   · exact absurd hj (tail_waits hs hc hn inv _ i rfl hin hun j h)
  refine ⟨hjn, ?_⟩
  by_cases hji : j = i
  · subst hji; exact hy.wpOp hi hS ⟨hS, H⟩
  · have := hdone _ _ _ H j (ready_mono hj hji)
    omega
 | succ f ih =>
  intro listed a w inv hfree hr hy hS H
  have hun := (mem_ready.1 hr).1
  refine ⟨fun h => (by rw [h] at hr; cases hr), fun j hj => ?_⟩
  have hjn : j < n := by
   rcases Nat.lt_or_ge j n with h | h
   · exact h
   · exact absurd hj (tail_waits hs hc hn inv _ i rfl hin hun j h)
  refine ⟨hjn, ?_⟩
  by_cases hji : j = i
  · subst hji; exact hy.wpOp hi hS ⟨hS, H⟩
  · have h1 := (H.2 j (ready_mono hj hji)).2
    obtain ⟨hjun, oj, hoj, hall⟩ := mem_ready.1 hj
    have hnot : ∀ e ∈ oj.after, Region.binds md e = true -> e.on ≠ i := fun e he hb heq => by
     have h1 := hall e he hb
     rw [heq, getD_both hun] at h1
     cases h1
    have h2 := wpOp_putIf hoj (hfree j oj hoj hji hjun hnot) (fun cs b => hsel i oi cs b hi) (fun cs b => hsel j oj cs b hoj) hQ hy h1
    have hfree' : ∀ k ok, ops[k]? = some ok -> k ≠ i -> (listed.setIfInBounds j true).getD k true = false ->
      (∀ e ∈ ok.after, Region.binds md e = true -> e.on ≠ i) -> oi.apart ops ok = true := fun k ok hk hki hun hno => by
     refine hfree k ok hk hki ?_ hno
     by_cases hjk : j = k
     · subst hjk; exact hjun
     · rw [getD_set_ne true hjk] at hun; exact hun
    refine wpOp_mono (fun a' w' h3 => ⟨h3.2.1, ih (listed.setIfInBounds j true) a' w' (inv.set hj hjn) hfree' (ready_mono hr (Ne.symm hji)) h3.1 h3.2.1 ?_⟩) h2
    rw [Array.setIfInBounds_comm _ _ hji]
    exact h3.2.2
end
def tailB (l : List Oper) (n : Nat) : Bool := Region.noSelect l.toArray && decide (n < l.length) && Region.sinkB .any l.toArray n && Region.chainB .any l.toArray n
def listedOf (m : Nat) (is : List Nat) : Array Bool := is.foldl (fun l i => l.setIfInBounds i true) (Array.replicate m false)
theorem listedOf_snoc (m : Nat) (is : List Nat) (i : Nat) : (listedOf m is).setIfInBounds i true = listedOf m (is ++ [i]) := by
 unfold listedOf
 rw [List.foldl_append]
 rfl
section
variable {P : Program} {l : List Oper} {Q : Exit -> Act -> World -> Prop} {S : World -> Prop} {n : Nat}
def headEnd (P : Program) (l : List Oper) (Q : Exit -> Act -> World -> Prop) (n : Nat) (listed : Array Bool) (a : Act) (w : World) : Prop :=
 Region.seqB .any l.toArray (l.length - n) n listed = true /\ wpList P l.toArray Q (l.drop n) a w
def Head (P : Program) (l : List Oper) (Q : Exit -> Act -> World -> Prop) (S : World -> Prop) (n f : Nat) (is : List Nat) (a : Act) (w : World) : Prop :=
 HeadInv .any l.toArray n (listedOf l.length is) /\ tailB l n = true -> wpHead P .any l.toArray Q S n (headEnd P l Q n) f (listedOf l.length is) a w
theorem headEnd_done {listed : Array Bool} {a : Act} {w : World} (h : headEnd P l Q n listed a w) : ∀ j ∈ Region.ready .any l.toArray listed, n <= j := seqB_ready h.1
theorem tailB_spec (h : tailB l n = true) : Region.noSelect l.toArray = true /\ n < l.toArray.size /\ Region.sinkB .any l.toArray n = true /\ Region.chainB .any l.toArray n = true := by
 simp only [tailB, Bool.and_eq_true, decide_eq_true_eq] at h
 exact ⟨h.1.1.1, by simpa using h.1.1.2, h.1.2, h.2⟩
theorem if_step {c : Bool} (hc : c = true) {X E : Prop} (h : X) : if c = true then X else E := by rw [if_pos hc]; exact h
theorem head_begin {id : Nat} {a : Act} {w : World} (n : Nat) (S : World -> Prop) (hm : P.follows .mixedOrders = true) (hB : tailB l n = true) (hS : S w.drew)
  (h : S w.drew -> Head P l Q S n n [] a w.drew) : (Code.region id l.toArray true).wp P Q a w := by
 obtain ⟨hsel, hn, hs, hc⟩ := tailB_spec hB
 have hn' : n < l.length := by simpa using hn
 have inv0 : HeadInv .any l.toArray n (listedOf l.length []) :=
  ⟨by simp [listedOf], fun j oj _ hl => (by unfold listedOf at hl; simp only [List.foldl_nil] at hl; rw [getD_replicate_false] at hl; cases hl), fun t _ ht => getD_in (by simpa [listedOf] using ht) (getD_replicate_false _ _)⟩
 have H := h hS ⟨inv0, hB⟩
 refine wp_region_any hm ?_
 have h2 := wpAny_of_wpHead (P := P) (md := .any) (ops := l.toArray) (Q := Q) (S := S) (n := n) (g := l.length - n) (L := headEnd P l Q n) (fun listed a w hL => by
  have := wpAny_of_seq (P := P) (md := .any) (ops := l.toArray) (Q' := Q) (l.drop n) n listed a w (fun j => by simp [List.getElem?_drop]) (by rw [List.length_drop]; exact hL.1) hL.2
  rwa [List.length_drop] at this) n _ a _ H
 rw [show n + (l.length - n) = l.length by omega] at h2
 have h3 : l.toArray.size = l.length := by simp
 rw [h3]
 exact h2
theorem head_take {f : Nat} {is : List Nat} {a : Act} {w : World} (i : Nat) (v : Value) (hi : i < l.length) (hf : (decide (i < n) && Region.free .any l.toArray (listedOf l.length is) i && (Region.ready .any l.toArray (listedOf l.length is)).contains i) = true)
  (hQ : ∀ c a w, Q (.panic c) (a.put (l[i]'hi).dst v) w -> Q (.panic c) a w) (hw : Region.wanted (l[i]'hi) (yielded l.toArray a.tmps) = true) (hv : ∀ W, S W -> (execOp a.eval (l[i]'hi)).run P W = .ok (.value v) W) (hS : S w)
  (h : Head P l Q S n f (is ++ [i]) (a.put (l[i]'hi).dst v) w) : Head P l Q S n (f + 1) is a w := by
 have hy : YieldsIf P l.toArray S (l[i]'hi) v a := .inl ⟨hw, hv⟩
 intro ⟨inv, hB⟩
 obtain ⟨hsel, hn, hs, hc⟩ := tailB_spec hB
 simp only [Bool.and_eq_true, decide_eq_true_eq] at hf
 obtain ⟨⟨hin, hfree⟩, hr⟩ := hf
 have hr' : i ∈ Region.ready .any l.toArray (listedOf l.length is) := by simpa using hr
 have hli : l.toArray[i]? = some (l[i]'hi) := by simp [hi]
 refine wpHead_first hli (Region.noSelect_spec hsel) hs hc hn hin hQ (fun _ _ _ => headEnd_done) f _ a w inv (Region.free_spec hli hfree) hr' hy hS ?_
 rw [listedOf_snoc]
 refine h ⟨?_, hB⟩
 rw [<- listedOf_snoc]
 exact inv.set hr' hin
theorem head_step {f : Nat} {is : List Nat} {a : Act} {w : World} (i : Nat) (hi : i < l.length) (hr : (decide (i < n) && decide (Region.ready .any l.toArray (listedOf l.length is) = [i])) = true)
  (h : ∀ K' : Act -> World -> Prop, Shut (∀ a w, S w -> (S w -> Head P l Q S n f (is ++ [i]) a w) -> K' a w) -> if Region.wanted (l[i]'hi) (yielded l.toArray a.tmps) = true then Oper.wp P (l[i]'hi) a w K' Q else K' (a.put (l[i]'hi).dst undef) w) :
  Head P l Q S n (f + 1) is a w := by
 intro ⟨inv, hB⟩
 simp only [Bool.and_eq_true, decide_eq_true_eq] at hr
 obtain ⟨hin, hr⟩ := hr
 have hli : l.toArray[i]? = some (l[i]'hi) := by simp [hi]
 have hmem : i ∈ Region.ready .any l.toArray (listedOf l.length is) := by rw [hr]; simp
 refine ⟨by rw [hr]; simp, fun j hj => ?_⟩
 rw [hr] at hj
 have hji : j = i := by simpa using hj
 subst hji
 refine ⟨hin, wpOp_step hli (fun K' hK => h K' (fun a' w' hS hW => hK a' w' ⟨hS, ?_⟩))⟩
 rw [listedOf_snoc]
 refine hW hS ⟨?_, hB⟩
 rw [<- listedOf_snoc]
 exact inv.set hmem hin
theorem head_two {f : Nat} {is : List Nat} {a : Act} {w : World} (i j : Nat) (hi : i < l.length) (hj : j < l.length) (hr : (decide (i < n) && decide (j < n) && decide (Region.ready .any l.toArray (listedOf l.length is) = [i, j])) = true)
  (h1 : ∀ K' : Act -> World -> Prop, Shut (∀ a w, S w -> (S w -> Head P l Q S n f (is ++ [i]) a w) -> K' a w) -> if Region.wanted (l[i]'hi) (yielded l.toArray a.tmps) = true then Oper.wp P (l[i]'hi) a w K' Q else K' (a.put (l[i]'hi).dst undef) w)
  (h2 : ∀ K' : Act -> World -> Prop, Shut (∀ a w, S w -> (S w -> Head P l Q S n f (is ++ [j]) a w) -> K' a w) -> if Region.wanted (l[j]'hj) (yielded l.toArray a.tmps) = true then Oper.wp P (l[j]'hj) a w K' Q else K' (a.put (l[j]'hj).dst undef) w) :
  Head P l Q S n (f + 1) is a w := by
 intro ⟨inv, hB⟩
 simp only [Bool.and_eq_true, decide_eq_true_eq] at hr
 obtain ⟨⟨hin, hjn⟩, hr⟩ := hr
 have step : ∀ m (hm : m < l.length), m < n -> m ∈ Region.ready .any l.toArray (listedOf l.length is) -> (∀ K' : Act -> World -> Prop, Shut (∀ a w, S w -> (S w -> Head P l Q S n f (is ++ [m]) a w) -> K' a w) -> if Region.wanted (l[m]'hm) (yielded l.toArray a.tmps) = true then Oper.wp P (l[m]'hm) a w K' Q else K' (a.put (l[m]'hm).dst undef) w) ->
   wpOp P l.toArray Q m (fun a' w' => S w' /\ wpHead P .any l.toArray Q S n (headEnd P l Q n) f ((listedOf l.length is).setIfInBounds m true) a' w') a w := by
  intro m hm hmn hmem h
  have hlm : l.toArray[m]? = some (l[m]'hm) := by simp [hm]
  refine wpOp_step hlm (fun K' hK => h K' (fun a' w' hS hW => hK a' w' ⟨hS, ?_⟩))
  rw [listedOf_snoc]
  refine hW hS ⟨?_, hB⟩
  rw [<- listedOf_snoc]
  exact inv.set hmem hmn
 refine ⟨by rw [hr]; simp, fun m hm => ?_⟩
 have hm2 := hm
 rw [hr] at hm
 rcases List.mem_cons.1 hm with rfl | hm
 · exact ⟨hin, step _ hi hin hm2 h1⟩
 · have hmj : m = j := by simpa using hm
   subst hmj
   exact ⟨hjn, step _ hj hjn hm2 h2⟩
theorem head_end {is : List Nat} {a : Act} {w : World} (hr : Region.seqB .any l.toArray (l.length - n) n (listedOf l.length is) = true) (h : wpList P l.toArray Q (l.drop n) a w) : Head P l Q S n 0 is a w :=
 fun _ => ⟨hr, h⟩
end
end
end Go.Proofs.YtjmfknfponjgkaaGreatDoor
