/- Plain laws of rules: formed, who is meant, deciding, restricting. No program. Conditions: those that each theorem states. -/
import Derived.Test.YtifjghkgmfmneaaGreatDoorDnS
import Derived.IntWalk
namespace Go.Proofs.YtifjghkgmfmneaaGreatDoor.PoS
open Go.Lib RdS DnS

structure Rl where
  who : List UInt8
  target : List UInt8
  attr : List UInt8
  rights : Int
  allow : Bool
  deriving DecidableEq

def whoOk (s : List UInt8) : Bool := s == [42] || s == [45] || s == [61] || (match s with | c :: r => c == 64 && decide ((normN r).2 = 0) | [] => false)
def formedR (r : Rl) : Bool := whoOk r.who && decide ((normN r.target).2 = 0) && decide ((RuS.typeOf r.attr).1 = r.attr) && decide (0 < r.rights) && decide (r.rights ≤ 63)
def formedL (l : List Rl) : Bool := decide (l.length ≤ 40) && l.all formedR
/-- is a rule's Who a subject, that asks about a name? (both normal) -/
def isS (s subject name : List UInt8) : Bool := if s = [42] then true else if s = [45] then subject == [] else if s = [61] then subject != [] && subject == name else subject != [] && underS subject (s.drop 1)
def oneS (right : Int) : Bool := right == 1 || right == 2 || right == 4 || right == 8 || right == 16 || right == 32
/-- the bits of both; the bits of the first that the second has not -/
def andI (x y : Int) : Int := IntKind.i64.wrap ((BitVec.ofInt 64 x &&& BitVec.ofInt 64 y).toNat : Int)
def clearI (x y : Int) : Int := IntKind.i64.wrap ((BitVec.ofInt 64 x &&& ~~~ BitVec.ofInt 64 y).toNat : Int)
/-- does a rule speak of the question? -/
def fitsR (s n t : List UInt8) (right : Int) (r : Rl) : Bool := isS r.who s n && (andI r.rights right != 0) && underS n r.target && (r.attr == [] || r.attr == t)
def firstS (s n t : List UInt8) (right : Int) (l : List Rl) : Bool := match l.find? (fitsR s n t right) with | some r => r.allow | none => false
def askedS (subject : List UInt8) (right : Int) (name attr : List UInt8) : Bool := decide ((normN subject).2 = 0) && decide ((normN name).2 = 0) && !(attr != [] && (RuS.typeOf attr).1 == []) && oneS right
def decideS (l : List Rl) (subject : List UInt8) (right : Int) (name attr : List UInt8) : Bool :=
  formedL l && askedS subject right name attr && firstS (normN subject).1 (normN name).1 (RuS.typeOf attr).1 right l
def keepsR (context : List UInt8) (r : Rl) : Bool := underS r.target context || underS context r.target
def restrictS (l : List Rl) (context : List UInt8) : List Rl := if formedL l && decide ((normN context).2 = 0) then l.filter (keepsR context) else []

theorem ofInt_wrap (v : BitVec 64) : BitVec.ofInt 64 (IntKind.i64.wrap (v.toNat : Int)) = v := by
  apply BitVec.eq_of_toNat_eq
  rw [BitVec.toNat_ofInt, IntKind.wrap_i64]
  have := v.isLt
  omega
theorem wrap_zero (v : BitVec 64) : IntKind.i64.wrap (v.toNat : Int) = 0 ↔ v = 0#64 := by
  constructor
  · intro h
    have := ofInt_wrap v
    rw [h] at this
    rw [← this]; rfl
  · rintro rfl; rfl
theorem of_and (x y : Int) : BitVec.ofInt 64 (andI x y) = BitVec.ofInt 64 x &&& BitVec.ofInt 64 y := ofInt_wrap _
theorem of_clear (x y : Int) : BitVec.ofInt 64 (clearI x y) = BitVec.ofInt 64 x &&& ~~~ BitVec.ofInt 64 y := ofInt_wrap _
theorem and_zero (x y : Int) : andI x y = 0 ↔ BitVec.ofInt 64 x &&& BitVec.ofInt 64 y = 0#64 := wrap_zero _
/-- the rights' parts meet a right just if the rights do -/
theorem parts_meet (x b r : Int) : (andI x r = 0) ↔ (andI (andI x b) r = 0 ∧ andI (clearI x b) r = 0) := by
  rw [and_zero, and_zero, and_zero, of_and, of_clear]
  generalize BitVec.ofInt 64 x = X
  generalize BitVec.ofInt 64 b = B
  generalize BitVec.ofInt 64 r = R
  constructor
  · intro h
    have hb : ∀ i, (X.getLsbD i && R.getLsbD i) = false := fun i => by
      have := congrArg (fun v => v.getLsbD i) h
      simpa using this
    constructor
    · apply BitVec.eq_of_getLsbD_eq
      intro i hi
      have := hb i
      simp only [BitVec.getLsbD_and, BitVec.getLsbD_zero]
      cases h1 : X.getLsbD i <;> cases h2 : R.getLsbD i <;> simp_all
    · apply BitVec.eq_of_getLsbD_eq
      intro i hi
      have := hb i
      simp only [BitVec.getLsbD_and, BitVec.getLsbD_zero]
      cases h1 : X.getLsbD i <;> cases h2 : R.getLsbD i <;> simp_all
  · rintro ⟨h, k⟩
    apply BitVec.eq_of_getLsbD_eq
    intro i hi
    have h1 := congrArg (fun v => v.getLsbD i) h
    have h2 := congrArg (fun v => v.getLsbD i) k
    simp only [BitVec.getLsbD_and, BitVec.getLsbD_zero, BitVec.getLsbD_not, hi, decide_true, Bool.true_and] at h1 h2 ⊢
    cases hx : X.getLsbD i <;> cases hr : R.getLsbD i <;> cases hb : B.getLsbD i <;> simp_all
theorem small_and {x : Int} (h0 : 0 < x) (h : x ≤ 63) (v : BitVec 64) : 0 ≤ IntKind.i64.wrap ((BitVec.ofInt 64 x &&& v).toNat : Int) ∧ IntKind.i64.wrap ((BitVec.ofInt 64 x &&& v).toNat : Int) ≤ 63 := by
  have hx : (BitVec.ofInt 64 x).toNat = x.toNat := by rw [BitVec.toNat_ofInt]; omega
  have : (BitVec.ofInt 64 x &&& v).toNat ≤ 63 := by
    rw [BitVec.toNat_and, hx]
    exact Nat.le_trans Nat.and_le_left (by omega)
  rw [IntWalk.i64_in _ (by omega)]
  omega

theorem fits_attr {s n t : List UInt8} {right : Int} {r : Rl} (h : fitsR s n t right r = true) : underS n r.target = true ∧ andI r.rights right ≠ 0 := by
  unfold fitsR at h
  simp only [Bool.and_eq_true, bne_iff_ne] at h
  exact ⟨h.1.2, h.1.1.2⟩
theorem first_cons (s n t : List UInt8) (right : Int) (r : Rl) (l : List Rl) : firstS s n t right (r :: l) = if fitsR s n t right r then r.allow else firstS s n t right l := by
  unfold firstS
  rw [List.find?_cons]
  cases fitsR s n t right r <;> rfl
/-- a rule with its rights parted -/
def partR (by_ : Int) (r : Rl) : List Rl := (if andI r.rights by_ ≠ 0 then [{ r with rights := andI r.rights by_ }] else []) ++ (if clearI r.rights by_ ≠ 0 then [{ r with rights := clearI r.rights by_ }] else [])
def partL (by_ : Int) (l : List Rl) : List Rl := l.flatMap (partR by_)
theorem and_left_zero (y : Int) : andI 0 y = 0 := by rw [and_zero]; simp
theorem part_first (by_ : Int) (s n t : List UInt8) (right : Int) (r : Rl) (l : List Rl) : firstS s n t right (partR by_ r ++ l) = if fitsR s n t right r then r.allow else firstS s n t right l := by
  have hm := parts_meet r.rights by_ right
  have e : ∀ q : Int, fitsR s n t right { r with rights := q } = (isS r.who s n && (andI q right != 0) && underS n r.target && (r.attr == [] || r.attr == t)) := fun _ => rfl
  have e0 : fitsR s n t right r = (isS r.who s n && (andI r.rights right != 0) && underS n r.target && (r.attr == [] || r.attr == t)) := rfl
  have z := and_left_zero right
  unfold partR
  by_cases h1 : andI r.rights by_ = 0 <;> by_cases h2 : clearI r.rights by_ = 0
  · rw [if_neg (by simp [h1]), if_neg (by simp [h2]), List.nil_append, List.nil_append, e0]
    rw [h1, h2] at hm
    have : andI r.rights right = 0 := hm.2 ⟨z, z⟩
    rw [this]; simp
  · rw [if_neg (by simp [h1]), if_pos h2, List.nil_append, List.cons_append, List.nil_append, first_cons, e, e0]
    rw [h1] at hm
    have : (andI (clearI r.rights by_) right != 0) = (andI r.rights right != 0) := by
      rw [Bool.eq_iff_iff, bne_iff_ne, bne_iff_ne]
      exact not_congr ⟨fun h => hm.2 ⟨z, h⟩, fun h => (hm.1 h).2⟩
    rw [this]
  · rw [if_pos h1, if_neg (by simp [h2]), List.append_nil, List.cons_append, List.nil_append, first_cons, e, e0]
    rw [h2] at hm
    have : (andI (andI r.rights by_) right != 0) = (andI r.rights right != 0) := by
      rw [Bool.eq_iff_iff, bne_iff_ne, bne_iff_ne]
      exact not_congr ⟨fun h => hm.2 ⟨h, z⟩, fun h => (hm.1 h).1⟩
    rw [this]
  · rw [if_pos h1, if_pos h2, List.cons_append, List.nil_append, List.cons_append, List.cons_append, List.nil_append, first_cons, first_cons, e, e, e0]
    by_cases a1 : andI (andI r.rights by_) right = 0 <;> by_cases a2 : andI (clearI r.rights by_) right = 0
    · rw [hm.2 ⟨a1, a2⟩, a1, a2]; simp
    · have : andI r.rights right ≠ 0 := fun h => a2 (hm.1 h).2
      rw [a1]; simp [a2, this]
    · have : andI r.rights right ≠ 0 := fun h => a1 (hm.1 h).1
      rw [a2]; simp [a1, this]
    · have : andI r.rights right ≠ 0 := fun h => a1 (hm.1 h).1
      simp only [bne_iff_ne.2 a1, bne_iff_ne.2 a2, bne_iff_ne.2 this]
      split <;> rfl
theorem partL_first (by_ : Int) (s n t : List UInt8) (right : Int) : ∀ l : List Rl, firstS s n t right (partL by_ l) = firstS s n t right l
  | [] => rfl
  | r :: l => by
    show firstS s n t right (partR by_ r ++ partL by_ l) = _
    rw [part_first, first_cons, partL_first by_ s n t right l]
theorem partR_len (by_ : Int) (r : Rl) : (partR by_ r).length ≤ 2 := by
  unfold partR
  rw [List.length_append]
  split <;> split <;> simp
theorem partL_len (by_ : Int) : ∀ l : List Rl, (partL by_ l).length ≤ 2 * l.length
  | [] => by simp [partL]
  | r :: l => by
    have h := partR_len by_ r
    have h2 := partL_len by_ l
    show (partR by_ r ++ partL by_ l).length ≤ _
    rw [List.length_append, List.length_cons]
    omega
theorem formed_with {r : Rl} {q : Int} (h : formedR r = true) (h0 : 0 < q) (h1 : q ≤ 63) : formedR { r with rights := q } = true := by
  unfold formedR at h ⊢
  simp only [Bool.and_eq_true, decide_eq_true_eq] at h ⊢
  exact ⟨⟨h.1.1, h0⟩, h1⟩
theorem partR_formed {by_ : Int} {r : Rl} (h : formedR r = true) : ∀ q ∈ partR by_ r, formedR q = true := by
  intro q hq
  have hr : 0 < r.rights ∧ r.rights ≤ 63 := by
    unfold formedR at h
    simp only [Bool.and_eq_true, decide_eq_true_eq] at h
    exact ⟨h.1.2, h.2⟩
  have s1 := small_and hr.1 hr.2 (BitVec.ofInt 64 by_)
  have s2 := small_and hr.1 hr.2 (~~~ BitVec.ofInt 64 by_)
  unfold partR at hq
  rcases List.mem_append.1 hq with hq | hq
  · split at hq
    · rename_i hne
      rw [List.mem_singleton] at hq
      subst hq
      have : andI r.rights by_ ≠ 0 := hne
      exact formed_with h (by unfold andI at *; omega) s1.2
    · cases hq
  · split at hq
    · rename_i hne
      rw [List.mem_singleton] at hq
      subst hq
      have : clearI r.rights by_ ≠ 0 := hne
      exact formed_with h (by unfold clearI at *; omega) s2.2
    · cases hq
theorem partL_formed {by_ : Int} {l : List Rl} (hl : l.length ≤ 20) (h : formedL l = true) : formedL (partL by_ l) = true := by
  unfold formedL at h ⊢
  simp only [Bool.and_eq_true, decide_eq_true_eq, List.all_eq_true] at h ⊢
  refine ⟨by have := partL_len by_ l; omega, fun q hq => ?_⟩
  obtain ⟨r, hr, hq⟩ := List.mem_flatMap.1 hq
  exact partR_formed (h.2 r hr) q hq
theorem part_decides {by_ : Int} {l : List Rl} (hl : l.length ≤ 20) (h : formedL l = true) (subject : List UInt8) (right : Int) (name attr : List UInt8) : decideS (partL by_ l) subject right name attr = decideS l subject right name attr := by
  unfold decideS
  rw [partL_formed hl h, h, partL_first]
/-- two names under which one lies are under one another -/
theorem under_two {a b c : List UInt8} (h : underS a b = true) (k : underS a c = true) : underS b c = true ∨ underS c b = true := by
  obtain ⟨_, hb, r, hr⟩ := under_iff.1 h
  obtain ⟨_, hc, q, hq⟩ := under_iff.1 k
  rw [hr] at hq
  rcases List.append_eq_append_iff.1 hq with ⟨x, hx, hy⟩ | ⟨x, hx, hy⟩
  · exact .inl (under_iff.2 ⟨hb, hc, x, hy⟩)
  · exact .inr (under_iff.2 ⟨hc, hb, x, hy⟩)
theorem norm_texts {s : List UInt8} (h : (normN s).2 = 0) : textsS (normN s).1 = textsS s := by
  have h2 : (textsS s).2 = 0 := h
  have := texts_back (s := s) (ts := (textsS s).1) (by rw [← h2])
  show textsS (joinS (textsS s).1) = _
  rw [this, ← h2]
theorem norm_under {s : List UInt8} (h : (normN s).2 = 0) (b : List UInt8) : underS (normN s).1 b = underS s b := by unfold underS; rw [norm_texts h]
theorem restrict_first {context n : List UInt8} (hu : underS n context = true) (s t : List UInt8) (right : Int) : ∀ l : List Rl, firstS s n t right (l.filter (keepsR context)) = firstS s n t right l
  | [] => rfl
  | r :: l => by
    have ih := restrict_first hu s t right l
    rw [List.filter_cons]
    split
    · rw [first_cons, first_cons, ih]
    · rename_i hk
      rw [ih, first_cons]
      cases hf : fitsR s n t right r with
      | false => rfl
      | true =>
        have h1 := (fits_attr hf).1
        have : keepsR context r = true := by
          unfold keepsR
          rw [Bool.or_eq_true]
          rcases under_two hu h1 with h | h
          · exact .inr h
          · exact .inl h
        exact absurd this hk
theorem restrict_formed {l : List Rl} (h : formedL l = true) (context : List UInt8) : formedL (l.filter (keepsR context)) = true := by
  unfold formedL at h ⊢
  simp only [Bool.and_eq_true, decide_eq_true_eq, List.all_eq_true] at h ⊢
  refine ⟨Nat.le_trans (List.length_filter_le _ _) h.1, fun q hq => h.2 q (List.mem_filter.1 hq).1⟩
theorem decide_nil (subject : List UInt8) (right : Int) (name attr : List UInt8) : decideS [] subject right name attr = false := by
  unfold decideS firstS
  simp
theorem restrict_decides {l : List Rl} {context name : List UInt8} (hu : underS name context = true) (subject : List UInt8) (right : Int) (attr : List UInt8) : decideS (restrictS l context) subject right name attr = decideS l subject right name attr := by
  obtain ⟨hn, hc, _⟩ := under_iff.1 hu
  have hn2 : (normN name).2 = 0 := hn
  have hc2 : (normN context).2 = 0 := hc
  unfold restrictS
  cases hf : formedL l with
  | false =>
    simp only [Bool.false_and]
    rw [if_neg (by simp), decide_nil]
    unfold decideS; rw [hf]; rfl
  | true =>
    rw [decide_eq_true hc2, Bool.and_self, if_pos rfl]
    unfold decideS
    rw [restrict_formed hf, hf, restrict_first (by rw [norm_under hn2]; exact hu)]
theorem norm_twice {s : List UInt8} (h : (normN s).2 = 0) : normN (normN s).1 = normN s := by rw [norm_norm h, ← h]
theorem spelt_decides {l : List Rl} {subject name : List UInt8} (hs : (normN subject).2 = 0) (hn : (normN name).2 = 0) (right : Int) (attr : List UInt8) : decideS l (normN subject).1 right (normN name).1 attr = decideS l subject right name attr := by
  unfold decideS askedS
  rw [norm_twice hs, norm_twice hn]
theorem bad_decides {l : List Rl} {subject name : List UInt8} (h : (normN subject).2 ≠ 0 ∨ (normN name).2 ≠ 0) (right : Int) (attr : List UInt8) : decideS l subject right name attr = false := by
  unfold decideS askedS
  rcases h with h | h <;> simp [h]
/-- a rule about all that stands first -/
def wholeR (allow : Bool) : Rl := ⟨[42], [], [], 63, allow⟩
theorem whole_formed (allow : Bool) : formedR (wholeR allow) = true := by
  cases allow <;> decide +kernel
theorem root_under {n : List UInt8} (h : (normN n).2 = 0) : underS n [] = true := by
  have h2 : (textsS n).2 = 0 := h
  have e : textsS [] = ([], 0) := by decide +kernel
  exact under_iff.2 ⟨h2, by rw [e], (textsS n).1, by rw [e, List.append_nil]⟩
theorem one_meets {right : Int} (h : oneS right = true) : andI 63 right ≠ 0 := by
  unfold oneS at h
  simp only [Bool.or_eq_true, beq_iff_eq] at h
  rcases h with ((((rfl | rfl) | rfl) | rfl) | rfl) | rfl <;> decide +kernel
theorem whole_fits {s n t : List UInt8} {right : Int} (allow : Bool) (hn : (normN n).2 = 0) (hr : oneS right = true) : fitsR s n t right (wholeR allow) = true := by
  have h1 := root_under hn
  have h2 := one_meets hr
  unfold fitsR wholeR
  simp [isS, h1, h2]
theorem whole_decides {l : List Rl} (hl : l.length < 40) (hf : formedL l = true) (allow : Bool) (subject : List UInt8) (right : Int) (name attr : List UInt8) :
    decideS (wholeR allow :: l) subject right name attr = (allow && decideS [wholeR true] subject right name attr) := by
  have hf2 : formedL (wholeR allow :: l) = true := by
    unfold formedL at hf ⊢
    simp only [Bool.and_eq_true, decide_eq_true_eq, List.all_eq_true] at hf ⊢
    refine ⟨by rw [List.length_cons]; omega, fun q hq => ?_⟩
    rcases List.mem_cons.1 hq with rfl | hq
    · exact whole_formed _
    · exact hf.2 q hq
  have hf3 : formedL [wholeR true] = true := by decide +kernel
  unfold decideS
  rw [hf2, hf3, Bool.true_and]
  try rw [Bool.true_and]
  cases ha : askedS subject right name attr with
  | false => simp
  | true =>
    unfold askedS at ha
    simp only [Bool.and_eq_true, decide_eq_true_eq] at ha
    have hn : (normN (normN name).1).2 = 0 := by rw [norm_twice ha.1.1.2]; exact ha.1.1.2
    rw [first_cons, first_cons, whole_fits _ hn ha.2, whole_fits _ hn ha.2]
    simp [wholeR]
end Go.Proofs.YtifjghkgmfmneaaGreatDoor.PoS
