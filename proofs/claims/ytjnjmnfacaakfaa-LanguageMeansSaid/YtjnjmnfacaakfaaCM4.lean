/-
  LanguageMeans: whatever the input, the call returns true, and each argument reads afterwards as it read before. No conditions. (Part 4 of 8 of its proof.)
-/
import Derived.Test.YtjnjmnfacaakfaaCM3
import Derived.Test.YtjnjmnfacaakfaaRows
namespace Go.Proofs.Ytjnjmnfacaakfaa
open Go.Eng
theorem namesSymbolB_ok (b : UInt8) : Pure Try.prog 42 [.v (.int .u8 (b.toNat : Int))] (vint .i64 (sym (b.toNat : Int))) := namesSymbol_ok _ (by omega) (by have := b.toNat_lt; omega)
theorem refSymbolB_ok (b : UInt8) : Pure Try.prog 43 [.v (.int .u8 (b.toNat : Int))] (vint .i64 (sym (b.toNat : Int))) := refSymbol_ok _ (by omega) (by have := b.toNat_lt; omega)
def word64 (S : Nat → Bool) : Int := ((wordN S 64 : Nat) : Int)
def noSet : Nat → Bool := fun _ => false
theorem word64_noSet : word64 noSet = 0 := by decide +kernel
theorem word64_36 : word64 (upd noSet 36 true) = 68719476736 := by decide +kernel
theorem word64_or (S : Nat → Bool) (i : Int) (h0 : 0 ≤ i) (h1 : i < 64) : bitsOf .or .u64 (word64 S) (IntKind.wrap .u64 (1 * 2 ^ min i.toNat (IntKind.bits .u64))) = word64 (upd S i.toNat true) := by
  obtain ⟨n, rfl⟩ := Int.eq_ofNat_of_zero_le h0
  have hn : n < 64 := by omega
  show bitsOf .or .u64 (word64 S) (IntKind.wrap .u64 (1 * 2 ^ min ((n : Int)).toNat (IntKind.bits .u64))) = word64 (upd S n true)
  rw [shl_u64 hn]
  unfold word64
  rw [or_u64 (wordN_lt S 64) (Nat.pow_lt_pow_right (by omega) hn), wordN_or S hn]
def range (S : Nat → Bool) (f t : Int) : Nat → Bool := fun m => S m || decide (f ≤ (m : Int) ∧ (m : Int) < t)
theorem range_none (S : Nat → Bool) (f : Int) : range S f f = S := by
  funext m
  simp [range]
  intro h1 h2
  omega
theorem range_step (S : Nat → Bool) (f t : Int) (h0 : 0 ≤ t) (h : f ≤ t) : upd (range S f t) t.toNat true = range S f (t + 1) := by
  funext m
  unfold upd range
  by_cases e : m = t.toNat
  · rw [if_pos e]
    have : f ≤ (m : Int) ∧ (m : Int) < t + 1 := by omega
    simp [this]
  · rw [if_neg e]
    congr 1
    rw [decide_eq_decide]
    omega
theorem range_or (S : Nat → Bool) (f t : Int) (h0 : 0 ≤ t) (h1 : t < 64) (h : f ≤ t) : bitsOf .or .u64 (word64 (range S f t)) (IntKind.wrap .u64 (1 * 2 ^ min t.toNat (IntKind.bits .u64))) = word64 (range S f (t + 1)) := by
  rw [word64_or _ _ h0 h1, range_step _ _ _ h0 h]
def s0 (l : List UInt8) : Int := sym (l.getD 0 0).toNat
def s1 (l : List UInt8) : Int := sym ((l.drop 1).getD 1 0).toNat
def memb : Nat → List UInt8 → (Nat → Bool) → Option (Nat → Bool)
  | 0, _, S => some S
  | n + 1, l, S => if l.length = 0 then some S else
    if s0 l < 0 ∨ s0 l = 36 then none else
    if hasPre (l.drop 1) [45] = true then
      (if (l.drop 1).length < 2 then none else
        if (s1 l < s0 l ∨ s1 l = 36) ∨ s0 l < 26 ∧ 26 ≤ s1 l then none
        else memb n ((l.drop 1).drop 2) (range S (s0 l) (s1 l + 1)))
    else memb n (l.drop 1) (range S (s0 l) (s0 l + 1))
theorem memb_nil {k : Nat} {l : List UInt8} {S : Nat → Bool} (h : l.length = 0) : memb k l S = some S := by
  cases k with
  | zero => rfl
  | succ k => rw [memb, if_pos h]
theorem memb_1 {k : Nat} {l : List UInt8} {S : Nat → Bool} (h : 0 < l.length) (hk : l.length ≤ k) (h1 : s0 l < 0 ∨ s0 l = 36) : memb k l S = none := by
  obtain ⟨k, rfl⟩ : ∃ j, k = j + 1 := ⟨k - 1, by omega⟩
  rw [memb, if_neg (by omega), if_pos h1]
theorem memb_2 {k : Nat} {l : List UInt8} {S : Nat → Bool} (h : 0 < l.length) (hk : l.length ≤ k) (h1 : ¬ (s0 l < 0 ∨ s0 l = 36)) (h2 : hasPre (l.drop 1) [45] = true) (h3 : (l.drop 1).length < 2) : memb k l S = none := by
  obtain ⟨k, rfl⟩ : ∃ j, k = j + 1 := ⟨k - 1, by omega⟩
  rw [memb, if_neg (by omega), if_neg h1, if_pos h2, if_pos h3]
theorem memb_3 {k : Nat} {l : List UInt8} {S : Nat → Bool} (h : 0 < l.length) (hk : l.length ≤ k) (h1 : ¬ (s0 l < 0 ∨ s0 l = 36)) (h2 : hasPre (l.drop 1) [45] = true) (h3 : ¬ (l.drop 1).length < 2) (h4 : (s1 l < s0 l ∨ s1 l = 36) ∨ s0 l < 26 ∧ 26 ≤ s1 l) : memb k l S = none := by
  obtain ⟨k, rfl⟩ : ∃ j, k = j + 1 := ⟨k - 1, by omega⟩
  rw [memb, if_neg (by omega), if_neg h1, if_pos h2, if_neg h3, if_pos h4]
theorem memb_4 {k : Nat} {l : List UInt8} {S : Nat → Bool} (h : 0 < l.length) (hk : l.length ≤ k) (h1 : ¬ (s0 l < 0 ∨ s0 l = 36)) (h2 : hasPre (l.drop 1) [45] = true) (h3 : ¬ (l.drop 1).length < 2) (h4 : ¬ ((s1 l < s0 l ∨ s1 l = 36) ∨ s0 l < 26 ∧ 26 ≤ s1 l)) : memb k l S = memb (k - 1) ((l.drop 1).drop 2) (range S (s0 l) (s1 l + 1)) := by
  obtain ⟨k, rfl⟩ : ∃ j, k = j + 1 := ⟨k - 1, by omega⟩
  rw [memb, if_neg (by omega), if_neg h1, if_pos h2, if_neg h3, if_neg h4]; rfl
theorem memb_5 {k : Nat} {l : List UInt8} {S : Nat → Bool} (h : 0 < l.length) (hk : l.length ≤ k) (h1 : ¬ (s0 l < 0 ∨ s0 l = 36)) (h2 : ¬ hasPre (l.drop 1) [45] = true) : memb k l S = memb (k - 1) (l.drop 1) (range S (s0 l) (s0 l + 1)) := by
  obtain ⟨k, rfl⟩ : ∃ j, k = j + 1 := ⟨k - 1, by omega⟩
  rw [memb, if_neg (by omega), if_neg h1, if_neg h2]; rfl
def classM (b : List UInt8) : Option (Nat → Bool) := if (b.getD 0 0).toNat = 45 then memb b.length (b.drop 1) (upd noSet 36 true) else memb b.length b noSet
def classS (s : List UInt8) : Option ((Nat → Bool) × List UInt8) := if (cutB s 93).2.2 = false ∨ (cutB s 93).1 = [] then none else (classM (cutB s 93).1).map fun S => (S, (cutB s 93).2.1)
def cSet (x : Option ((Nat → Bool) × List UInt8)) : Int := match x with
  | some y => word64 y.1
  | none => 0
def cRest (x : Option ((Nat → Bool) × List UInt8)) : List UInt8 := match x with
  | some y => y.2
  | none => []
theorem cut1_le (s : List UInt8) (c : UInt8) : (cutB s c).1.length ≤ s.length := by
  unfold cutB
  split
  · simp; omega
  · simp
theorem class_some {s : List UInt8} {S : Nat → Bool} (h : ¬ ((cutB s 93).2.2 = false ∨ (cutB s 93).1 = [])) (h1 : classM (cutB s 93).1 = some S) : classS s = some (S, (cutB s 93).2.1) := by
  unfold classS
  rw [if_neg h, h1]; rfl
theorem class_none {s : List UInt8} (h : ¬ ((cutB s 93).2.2 = false ∨ (cutB s 93).1 = [])) (h1 : classM (cutB s 93).1 = none) : classS s = none := by
  unfold classS
  rw [if_neg h, h1]; rfl
theorem class_none0 {s : List UInt8} (h : (cutB s 93).2.2 = false ∨ (cutB s 93).1 = []) : classS s = none := by
  unfold classS
  rw [if_pos h]
theorem sym_ge (c : Int) : -1 ≤ sym c := by
  unfold sym
  (repeat (split)) <;> omega
theorem class_ok (s : List UInt8) (hb0 : s.length < 4611686018427387904) : Pure Try.prog 55 [.s s] (.tup [vint .u64 (cSet (classS s)), vstr (cRest (classS s)), vbool ((classS s).isSome)]) := by
  have hcl := cut1_le s 93
  refine pure_of (fn := Try.f55) Try.func55 rfl rfl fun F_ W0_ => ?_
  refine tr_seq ?_
  refine tr_r (vc := []) (E' := [(0, none, vstr s), (2, none, vint .u64 0)]) (H' := []) [] [] [0, 2] (by kernel_rfl) ?_ ?_
  · exact trivial
  refine tr_then ?_
  refine tr_seq ?_
  refine tr_r (vc := [Pure Try.prog 57 [.s s, .s ([93] : List UInt8)] (.tup [vstr ((cutB s 93).1), vstr ((cutB s 93).2.1), vbool ((cutB s 93).2.2)])]) (E' := [(2, none, vint .u64 0), (3, none, vstr ((cutB s 93).2.1)), (4, none, vbool ((cutB s 93).2.2)), (5, none, vstr ((cutB s 93).1))]) (H' := []) [] [(1, .tup [vstr ((cutB s 93).1), vstr ((cutB s 93).2.1), vbool ((cutB s 93).2.2)])] [2, 3, 4, 5] (by kernel_rfl) ?_ ?_
  · refine al ?_ (trivial)
    · exact cut1_ok _ _ (by first | omega | (intro hg; simp at hg; omega) | (simp; done) | (simp_all; done) | (simp_all; omega) | grind)
  refine tr_then ?_
  refine tr_seq ?_
  refine tr_seq ?_
  refine tr_r (vc := [(!(!((cutB s 93).2.2))) = true → (!(!((cutB s 93).2.2))) = true, (!(!((cutB s 93).2.2))) = true → (!(!((cutB s 93).2.2))) = true]) (E' := [(2, none, vint .u64 0), (3, none, vstr ((cutB s 93).2.1)), (5, none, vstr ((cutB s 93).1)), (20, none, vbool ((!((cutB s 93).2.2)) || (((cutB s 93).1) == ([] : List UInt8))))]) (H' := []) [] [] [2, 3, 5, 20] (by kernel_rfl) ?_ ?_
  · refine al ?_ (al ?_ (trivial))
    · exact id
    · exact id
  refine tr_then ?_
  refine tr_condP ((!((cutB s 93).2.2)) || (((cutB s 93).1) == ([] : List UInt8))) ((((cutB s 93).2.2) = false) ∨ (((cutB s 93).1) = ([] : List UInt8))) (by simp) (by kernel_rfl) (fun hc1 => ?_) (fun hc1 => ?_)
  · skip
    refine tr_seq ?_
    refine tr_r (vc := []) (E' := [(2, none, vint .u64 0), (3, none, vstr ([] : List UInt8)), (4, none, vbool false)]) (H' := []) [] [] [2, 3, 4] (by kernel_rfl) ?_ ?_
    · exact trivial
    refine tr_then ?_
    refine tr_pre (E' := (2, none, vint .u64 (cSet (classS s))) :: [(2, none, vint .u64 0), (3, none, vstr ([] : List UInt8)), (4, none, vbool false)]) (H' := []) (fun A_ W_ hS => sl_set_imp (d := vint .u64 0) 2 (vint .u64 (cSet (classS s))) (by kernel_rfl) ?_ hS) ?_
    · refine imp_eq (congrArg (fun x => D.p ((eK .u64) x)) (a₁ := 0) (a₂ := (cSet (classS s))) ?_)
      rw [class_none0 hc1]; rfl
    refine tr_pre (E' := [(2, none, vint .u64 (cSet (classS s))), (3, none, vstr ([] : List UInt8)), (4, none, vbool false)]) (H' := []) (fun A_ W_ hS => sl_proj (ts := [2, 3, 4]) (by kernel_rfl) hS) ?_
    refine tr_pre (E' := (3, none, vstr (cRest (classS s))) :: [(2, none, vint .u64 (cSet (classS s))), (3, none, vstr ([] : List UInt8)), (4, none, vbool false)]) (H' := []) (fun A_ W_ hS => sl_set_imp (d := vstr ([] : List UInt8)) 3 (vstr (cRest (classS s))) (by kernel_rfl) ?_ hS) ?_
    · refine imp_eq (congrArg (fun x => D.p (eS x)) (a₁ := ([] : List UInt8)) (a₂ := (cRest (classS s))) ?_)
      rw [class_none0 hc1]; rfl
    refine tr_pre (E' := [(2, none, vint .u64 (cSet (classS s))), (3, none, vstr (cRest (classS s))), (4, none, vbool false)]) (H' := []) (fun A_ W_ hS => sl_proj (ts := [2, 3, 4]) (by kernel_rfl) hS) ?_
    refine tr_pre (E' := (4, none, vbool ((classS s).isSome)) :: [(2, none, vint .u64 (cSet (classS s))), (3, none, vstr (cRest (classS s))), (4, none, vbool false)]) (H' := []) (fun A_ W_ hS => sl_set_imp (d := vbool false) 4 (vbool ((classS s).isSome)) (by kernel_rfl) ?_ hS) ?_
    · refine imp_eq (congrArg (fun x => D.p (eB x)) (a₁ := false) (a₂ := ((classS s).isSome)) ?_)
      rw [class_none0 hc1]; rfl
    refine tr_pre (E' := [(2, none, vint .u64 (cSet (classS s))), (3, none, vstr (cRest (classS s))), (4, none, vbool ((classS s).isSome))]) (H' := []) (fun A_ W_ hS => sl_proj (ts := [2, 3, 4]) (by kernel_rfl) hS) ?_
    exact tr_return' (vc := []) (ds := [vint .u64 (cSet (classS s)), vstr (cRest (classS s)), vbool ((classS s).isSome)]) (by kernel_rfl) trivial (by kernel_rfl) (fun _ _ h => h)
  · skip
    refine tr_skip ?_
    refine tr_then ?_
    refine tr_join (α := (List UInt8) × (Nat → Bool)) (fun z : (List UInt8) × (Nat → Bool) => (fun (l : List UInt8) (S : Nat → Bool) => [(2, none, vint .u64 (word64 S)), (3, none, vstr ((cutB s 93).2.1)), (5, none, vstr l)]) z.1 z.2) (fun z : (List UInt8) × (Nat → Bool) => (fun (l : List UInt8) (S : Nat → Bool) => []) z.1 z.2) (fun z : (List UInt8) × (Nat → Bool) => (fun (l : List UInt8) (S : Nat → Bool) => (memb (cutB s 93).1.length l S = classM (cutB s 93).1) ∧ (l.length ≤ (cutB s 93).1.length)) z.1 z.2) ?_ ?_
    · intro z hz
      obtain ⟨l, S⟩ := z
      have hz : (memb (cutB s 93).1.length l S = classM (cutB s 93).1) ∧ (l.length ≤ (cutB s 93).1.length) := hz
      obtain ⟨hj6_0, hj6_1⟩ := hz
      refine tr_seq ?_
      refine tr_block ?_
      refine tr_loop (α := Nat × (List UInt8) × (Nat → Bool)) (fun z : Nat × (List UInt8) × (Nat → Bool) => (fun (k : Nat) (l : List UInt8) (S : Nat → Bool) => [(2, none, vint .u64 (word64 S)), (3, none, vstr ((cutB s 93).2.1)), (5, none, vstr l)]) z.1 z.2.1 z.2.2) (fun z : Nat × (List UInt8) × (Nat → Bool) => (fun (k : Nat) (l : List UInt8) (S : Nat → Bool) => []) z.1 z.2.1 z.2.2) (fun z : Nat × (List UInt8) × (Nat → Bool) => (fun (k : Nat) (l : List UInt8) (S : Nat → Bool) => (memb k l S = classM (cutB s 93).1) ∧ (l.length ≤ k) ∧ (l.length ≤ s.length)) z.1 z.2.1 z.2.2) (fun z : Nat × (List UInt8) × (Nat → Bool) => (fun (k : Nat) (l : List UInt8) (S : Nat → Bool) => l.length) z.1 z.2.1 z.2.2) ((cutB s 93).1.length, l, S) ?_ ?_ ?_
      · show (memb ((cutB s 93).1.length) l S = classM (cutB s 93).1) ∧ (l.length ≤ ((cutB s 93).1.length)) ∧ (l.length ≤ s.length)
        refine ⟨?_, ?_, ?_⟩
        · exact hj6_0
        · exact hj6_1
        · omega
      · intro A_ W_ hS
        exact sl_weak (vc := []) [] [2, 3, 5] (by kernel_rfl) trivial hS
      · intro z hz
        obtain ⟨k, l, S⟩ := z
        have hz : (memb k l S = classM (cutB s 93).1) ∧ (l.length ≤ k) ∧ (l.length ≤ s.length) := hz
        obtain ⟨hi0_0, hi0_1, hi0_2⟩ := hz
        have e0 : s0 l = sym (l.getD 0 0).toNat := rfl
        have e1 : s1 l = sym ((l.drop 1).getD 1 0).toNat := rfl
        have b0 := sym_le ((l.getD 0 0).toNat : Int)
        have b1 := sym_le (((l.drop 1).getD 1 0).toNat : Int)
        have b2 := sym_ge ((l.getD 0 0).toNat : Int)
        have b3 := sym_ge (((l.drop 1).getD 1 0).toNat : Int)
        refine tr_seq ?_
        refine tr_seq ?_
        refine tr_r (vc := []) (E' := [(2, none, vint .u64 (word64 S)), (3, none, vstr ((cutB s 93).2.1)), (5, none, vstr l), (28, none, vbool (decide (0 < ((l.length : Nat) : Int))))]) (H' := []) [] [] [2, 3, 5, 28] (by kernel_rfl) ?_ ?_
        · exact trivial
        refine tr_then ?_
        refine tr_condP (decide (0 < ((l.length : Nat) : Int))) (0 < ((l.length : Nat) : Int)) (by simp) (by kernel_rfl) (fun hc2 => ?_) (fun hc2 => ?_)
        · skip
          refine tr_skip ?_
          refine tr_then ?_
          refine tr_block ?_
          refine tr_seq ?_
          refine tr_r (vc := [(0 : Int) ≤ 0, 0 < (l.length : Int), Pure Try.prog 42 [.v (.int .u8 ((l.getD 0 0).toNat : Int))] (vint .i64 (sym ((l.getD 0 0).toNat : Int)))]) (E' := [(2, none, vint .u64 (word64 S)), (3, none, vstr ((cutB s 93).2.1)), (5, none, vstr l), (6, none, vint .i64 (sym ((l.getD 0 0).toNat : Int)))]) (H' := []) [] [(2, vint .i64 (sym ((l.getD 0 0).toNat : Int)))] [2, 3, 5, 6] (by kernel_rfl) ?_ ?_
          · refine al ?_ (al ?_ (al ?_ (trivial)))
            · first | omega | (intro hg; simp at hg; omega) | (simp; done) | (simp_all; done) | (simp_all; omega) | grind
            · first | omega | (intro hg; simp at hg; omega) | (simp; done) | (simp_all; done) | (simp_all; omega) | grind
            · first | exact namesSymbolB_ok _ | exact namesSymbol_ok _ (by omega) (by omega)
          refine tr_then ?_
          refine tr_seq ?_
          refine tr_r (vc := []) (E' := [(2, none, vint .u64 (word64 S)), (3, none, vstr ((cutB s 93).2.1)), (5, none, vstr l), (6, none, vint .i64 (sym ((l.getD 0 0).toNat : Int))), (7, none, vint .i64 (sym ((l.getD 0 0).toNat : Int)))]) (H' := []) [] [] [2, 3, 5, 6, 7] (by kernel_rfl) ?_ ?_
          · exact trivial
          refine tr_then ?_
          refine tr_seq ?_
          refine tr_seq ?_
          refine tr_r (vc := [(!(decide ((sym ((l.getD 0 0).toNat : Int)) < 0))) = true → (!(decide ((sym ((l.getD 0 0).toNat : Int)) < 0))) = true, (!(decide ((sym ((l.getD 0 0).toNat : Int)) < 0))) = true → (!(decide ((sym ((l.getD 0 0).toNat : Int)) < 0))) = true]) (E' := [(2, none, vint .u64 (word64 S)), (3, none, vstr ((cutB s 93).2.1)), (5, none, vstr l), (6, none, vint .i64 (sym ((l.getD 0 0).toNat : Int))), (7, none, vint .i64 (sym ((l.getD 0 0).toNat : Int))), (38, none, vbool ((decide ((sym ((l.getD 0 0).toNat : Int)) < 0)) || ((sym ((l.getD 0 0).toNat : Int)) == 36)))]) (H' := []) [] [] [2, 3, 5, 6, 7, 38] (by kernel_rfl) ?_ ?_
          · refine al ?_ (al ?_ (trivial))
            · exact id
            · exact id
          refine tr_then ?_
          refine tr_condP ((decide ((sym ((l.getD 0 0).toNat : Int)) < 0)) || ((sym ((l.getD 0 0).toNat : Int)) == 36)) (((sym ((l.getD 0 0).toNat : Int)) < 0) ∨ ((sym ((l.getD 0 0).toNat : Int)) = 36)) (by simp) (by kernel_rfl) (fun hc3 => ?_) (fun hc3 => ?_)
          · skip
            refine tr_seq ?_
            refine tr_r (vc := []) (E' := [(2, none, vint .u64 0), (3, none, vstr ([] : List UInt8)), (4, none, vbool false)]) (H' := []) [] [] [2, 3, 4] (by kernel_rfl) ?_ ?_
            · exact trivial
            refine tr_then ?_
            refine tr_pre (E' := (2, none, vint .u64 (cSet (classS s))) :: [(2, none, vint .u64 0), (3, none, vstr ([] : List UInt8)), (4, none, vbool false)]) (H' := []) (fun A_ W_ hS => sl_set_imp (d := vint .u64 0) 2 (vint .u64 (cSet (classS s))) (by kernel_rfl) ?_ hS) ?_
            · refine imp_eq (congrArg (fun x => D.p ((eK .u64) x)) (a₁ := 0) (a₂ := (cSet (classS s))) ?_)
              first | (rw [class_some hc1 (by rw [← hi0_0, memb_nil (by omega)])]; rfl) | ((first | (rw [class_none hc1 (by rw [← hi0_0]; exact memb_1 (by omega) hi0_1 (by assumption))]) | (rw [class_none hc1 (by rw [← hi0_0]; exact memb_2 (by omega) hi0_1 (by assumption) (by assumption) (by omega))]) | (rw [class_none hc1 (by rw [← hi0_0]; exact memb_3 (by omega) hi0_1 (by assumption) (by assumption) (by omega) (by assumption))])); rfl)
            refine tr_pre (E' := [(2, none, vint .u64 (cSet (classS s))), (3, none, vstr ([] : List UInt8)), (4, none, vbool false)]) (H' := []) (fun A_ W_ hS => sl_proj (ts := [2, 3, 4]) (by kernel_rfl) hS) ?_
            refine tr_pre (E' := (3, none, vstr (cRest (classS s))) :: [(2, none, vint .u64 (cSet (classS s))), (3, none, vstr ([] : List UInt8)), (4, none, vbool false)]) (H' := []) (fun A_ W_ hS => sl_set_imp (d := vstr ([] : List UInt8)) 3 (vstr (cRest (classS s))) (by kernel_rfl) ?_ hS) ?_
            · refine imp_eq (congrArg (fun x => D.p (eS x)) (a₁ := ([] : List UInt8)) (a₂ := (cRest (classS s))) ?_)
              first | (rw [class_some hc1 (by rw [← hi0_0, memb_nil (by omega)])]; rfl) | ((first | (rw [class_none hc1 (by rw [← hi0_0]; exact memb_1 (by omega) hi0_1 (by assumption))]) | (rw [class_none hc1 (by rw [← hi0_0]; exact memb_2 (by omega) hi0_1 (by assumption) (by assumption) (by omega))]) | (rw [class_none hc1 (by rw [← hi0_0]; exact memb_3 (by omega) hi0_1 (by assumption) (by assumption) (by omega) (by assumption))])); rfl)
            refine tr_pre (E' := [(2, none, vint .u64 (cSet (classS s))), (3, none, vstr (cRest (classS s))), (4, none, vbool false)]) (H' := []) (fun A_ W_ hS => sl_proj (ts := [2, 3, 4]) (by kernel_rfl) hS) ?_
            refine tr_pre (E' := (4, none, vbool ((classS s).isSome)) :: [(2, none, vint .u64 (cSet (classS s))), (3, none, vstr (cRest (classS s))), (4, none, vbool false)]) (H' := []) (fun A_ W_ hS => sl_set_imp (d := vbool false) 4 (vbool ((classS s).isSome)) (by kernel_rfl) ?_ hS) ?_
            · refine imp_eq (congrArg (fun x => D.p (eB x)) (a₁ := false) (a₂ := ((classS s).isSome)) ?_)
              first | (rw [class_some hc1 (by rw [← hi0_0, memb_nil (by omega)])]; rfl) | ((first | (rw [class_none hc1 (by rw [← hi0_0]; exact memb_1 (by omega) hi0_1 (by assumption))]) | (rw [class_none hc1 (by rw [← hi0_0]; exact memb_2 (by omega) hi0_1 (by assumption) (by assumption) (by omega))]) | (rw [class_none hc1 (by rw [← hi0_0]; exact memb_3 (by omega) hi0_1 (by assumption) (by assumption) (by omega) (by assumption))])); rfl)
            refine tr_pre (E' := [(2, none, vint .u64 (cSet (classS s))), (3, none, vstr (cRest (classS s))), (4, none, vbool ((classS s).isSome))]) (H' := []) (fun A_ W_ hS => sl_proj (ts := [2, 3, 4]) (by kernel_rfl) hS) ?_
            exact tr_return' (vc := []) (ds := [vint .u64 (cSet (classS s)), vstr (cRest (classS s)), vbool ((classS s).isSome)]) (by kernel_rfl) trivial (by kernel_rfl) (fun _ _ h => h)
          · skip
            refine tr_skip ?_
            refine tr_then ?_
            refine tr_seq ?_
            refine tr_r (vc := [(0 : Int) ≤ 1, 1 ≤ (l.length : Int), (l.length : Int) ≤ (l.length : Int), ((l.drop 1).take (l.length - 1)) = (l.drop 1)]) (E' := [(2, none, vint .u64 (word64 S)), (3, none, vstr ((cutB s 93).2.1)), (5, none, vstr (l.drop 1)), (6, none, vint .i64 (sym ((l.getD 0 0).toNat : Int))), (7, none, vint .i64 (sym ((l.getD 0 0).toNat : Int)))]) (H' := []) [(1, vstr (l.drop 1))] [] [2, 3, 5, 6, 7] (by kernel_rfl) ?_ ?_
            · refine al ?_ (al ?_ (al ?_ (al ?_ (trivial))))
              · first | omega | (intro hg; simp at hg; omega) | (simp; done) | (simp_all; done) | (simp_all; omega) | grind
              · first | omega | (intro hg; simp at hg; omega) | (simp; done) | (simp_all; done) | (simp_all; omega) | grind
              · first | omega | (intro hg; simp at hg; omega) | (simp; done) | (simp_all; done) | (simp_all; omega) | grind
              · exact cut_drop_str
            refine tr_then ?_
            refine tr_join (α := Int × (List UInt8)) (fun z : Int × (List UInt8) => (fun (t : Int) (l1 : List UInt8) => [(2, none, vint .u64 (word64 S)), (3, none, vstr ((cutB s 93).2.1)), (5, none, vstr l1), (6, none, vint .i64 (sym ((l.getD 0 0).toNat : Int))), (7, none, vint .i64 t)]) z.1 z.2) (fun z : Int × (List UInt8) => (fun (t : Int) (l1 : List UInt8) => []) z.1 z.2) (fun z : Int × (List UInt8) => (fun (t : Int) (l1 : List UInt8) => (memb k l S = memb (k - 1) l1 (range S (s0 l) (t + 1))) ∧ (l1.length < l.length) ∧ (t ≤ 36) ∧ (s0 l ≤ t)) z.1 z.2) ?_ ?_
            · intro z hz
              obtain ⟨t, l1⟩ := z
              have hz : (memb k l S = memb (k - 1) l1 (range S (s0 l) (t + 1))) ∧ (l1.length < l.length) ∧ (t ≤ 36) ∧ (s0 l ≤ t) := hz
              obtain ⟨hj19_0, hj19_1, hj19_2, hj19_3⟩ := hz
              refine tr_seq ?_
              refine tr_r (vc := []) (E' := [(2, none, vint .u64 (word64 S)), (3, none, vstr ((cutB s 93).2.1)), (5, none, vstr l1), (7, none, vint .i64 t), (8, none, vint .i64 (sym ((l.getD 0 0).toNat : Int)))]) (H' := []) [] [] [2, 3, 5, 7, 8] (by kernel_rfl) ?_ ?_
              · exact trivial
              refine tr_then ?_
              refine tr_block ?_
              refine tr_loop (α := Nat) (fun z : Nat => (fun (m : Nat) => [(2, none, vint .u64 (word64 (range S (s0 l) (s0 l + m)))), (3, none, vstr ((cutB s 93).2.1)), (5, none, vstr l1), (7, none, vint .i64 t), (8, none, vint .i64 (s0 l + m))]) z) (fun z : Nat => (fun (m : Nat) => []) z) (fun z : Nat => (fun (m : Nat) => (s0 l + m ≤ t + 1)) z) (fun z : Nat => (fun (m : Nat) => (t + 1 - s0 l - m).toNat) z) 0 ?_ ?_ ?_
              · show (s0 l + 0 ≤ t + 1)
                · first | omega | (intro hg; simp at hg; omega) | (simp; done) | (simp_all; done) | (simp_all; omega) | grind
              · intro A_ W_ hS
                replace hS := sl_set (d := vint .u64 (word64 S)) 2 (vint .u64 (word64 (range S (s0 l) (s0 l + 0)))) (by kernel_rfl) (eqD_int (by rw [Int.add_zero, range_none])) hS
                replace hS := sl_set (d := vint .i64 (sym ((l.getD 0 0).toNat : Int))) 8 (vint .i64 (s0 l + 0)) (by kernel_rfl) (eqD_int (by first | omega | (intro hg; simp at hg; omega) | (simp; done) | (simp_all; done) | (simp_all; omega) | grind)) hS
                exact sl_weak (vc := []) [] [2, 3, 5, 7, 8] (by kernel_rfl) trivial hS
              · intro z hz
                revert z; intro m hz
                have hz : (s0 l + m ≤ t + 1) := hz
                have hi1_0 := hz
                refine tr_seq ?_
                refine tr_seq ?_
                refine tr_r (vc := []) (E' := [(2, none, vint .u64 (word64 (range S (s0 l) (s0 l + m)))), (3, none, vstr ((cutB s 93).2.1)), (5, none, vstr l1), (7, none, vint .i64 t), (8, none, vint .i64 (s0 l + m)), (69, none, vbool (decide ((s0 l + m) ≤ t)))]) (H' := []) [] [] [2, 3, 5, 7, 8, 69] (by kernel_rfl) ?_ ?_
                · exact trivial
                refine tr_then ?_
                refine tr_condP (decide ((s0 l + m) ≤ t)) ((s0 l + m) ≤ t) (by simp) (by kernel_rfl) (fun hc4 => ?_) (fun hc4 => ?_)
                · skip
                  refine tr_skip ?_
                  refine tr_then ?_
                  refine tr_seq ?_
                  refine tr_block ?_
                  refine tr_r (vc := [(0 : Int) ≤ (s0 l + m)]) (E' := [(2, none, vint .u64 (bitsOf .or .u64 (word64 (range S (s0 l) (s0 l + m))) (IntKind.wrap .u64 ((1 : Int) * 2 ^ min (s0 l + m).toNat (IntKind.bits .u64))))), (3, none, vstr ((cutB s 93).2.1)), (5, none, vstr l1), (7, none, vint .i64 t), (8, none, vint .i64 (s0 l + m))]) (H' := []) [] [] [2, 3, 5, 7, 8] (by kernel_rfl) ?_ ?_
                  · refine al ?_ (trivial)
                    · first | omega | (intro hg; simp at hg; omega) | (simp; done) | (simp_all; done) | (simp_all; omega) | grind
                  refine in_n ?_
                  refine tr_then ?_
                  refine tr_r (vc := [(IntKind.wrap .i64 ((s0 l + m) + 1)) = ((s0 l + m) + 1)]) (E' := [(2, none, vint .u64 (bitsOf .or .u64 (word64 (range S (s0 l) (s0 l + m))) (IntKind.wrap .u64 ((1 : Int) * 2 ^ min (s0 l + m).toNat (IntKind.bits .u64))))), (3, none, vstr ((cutB s 93).2.1)), (5, none, vstr l1), (7, none, vint .i64 t), (8, none, vint .i64 ((s0 l + m) + 1))]) (H' := []) [(1, vint .i64 ((s0 l + m) + 1))] [] [2, 3, 5, 7, 8] (by kernel_rfl) ?_ ?_
                  · refine al ?_ (trivial)
                    · exact wr64 (by omega) (by omega) (by omega)
                  refine lp_end (m + 1) ?_ ?_ ?_
                  · show (s0 l + (m + 1) ≤ t + 1)
                    · first | omega | (intro hg; simp at hg; omega) | (simp; done) | (simp_all; done) | (simp_all; omega) | grind
                  · show (t + 1 - s0 l - (m + 1)).toNat < (t + 1 - s0 l - m).toNat
                    omega
                  · intro A_ W_ hS
                    replace hS := sl_set (d := vint .u64 (bitsOf .or .u64 (word64 (range S (s0 l) (s0 l + m))) (IntKind.wrap .u64 ((1 : Int) * 2 ^ min (s0 l + m).toNat (IntKind.bits .u64))))) 2 (vint .u64 (word64 (range S (s0 l) (s0 l + (m + 1))))) (by kernel_rfl) (eqD_int (by rw [← Int.add_assoc]; exact range_or _ _ _ (by omega) (by omega) (by omega))) hS
                    replace hS := sl_set (d := vint .i64 ((s0 l + m) + 1)) 8 (vint .i64 (s0 l + (m + 1))) (by kernel_rfl) (eqD_int (by first | omega | (intro hg; simp at hg; omega) | (simp; done) | (simp_all; done) | (simp_all; omega) | grind)) hS
                    exact sl_weak (vc := []) [] [2, 3, 5, 7, 8] (by kernel_rfl) trivial hS
                · skip
                  refine tr_exit ?_
                  refine th_e ?_
                  refine th_e ?_
                  refine in_hit ?_
                  refine in_n ?_
                  refine lp_end ((k - 1), l1, (range S (s0 l) (s0 l + m))) ?_ ?_ ?_
                  · show (memb (k - 1) l1 (range S (s0 l) (s0 l + m)) = classM (cutB s 93).1) ∧ (l1.length ≤ (k - 1)) ∧ (l1.length ≤ s.length)
                    refine ⟨?_, ?_, ?_⟩
                    · rw [← hi0_0, hj19_0, show t + 1 = s0 l + m by omega]
                    · omega
                    · first | omega | (intro hg; simp at hg; omega) | (simp; done) | (simp_all; done) | (simp_all; omega) | grind
                  · show l1.length < l.length
                    omega
                  · intro A_ W_ hS
                    exact sl_weak (vc := []) [] [2, 3, 5] (by kernel_rfl) trivial hS
            · skip
              refine tr_seq ?_
              refine tr_r (vc := [Pure Try.prog 58 [.s (l.drop 1), .s ([45] : List UInt8)] (vbool (hasPre (l.drop 1) ([45] : List UInt8)))]) (E' := [(2, none, vint .u64 (word64 S)), (3, none, vstr ((cutB s 93).2.1)), (5, none, vstr (l.drop 1)), (6, none, vint .i64 (sym ((l.getD 0 0).toNat : Int))), (7, none, vint .i64 (sym ((l.getD 0 0).toNat : Int))), (42, none, vbool (hasPre (l.drop 1) ([45] : List UInt8)))]) (H' := []) [] [(1, vbool (hasPre (l.drop 1) ([45] : List UInt8)))] [2, 3, 5, 6, 7, 42] (by kernel_rfl) ?_ ?_
              · refine al ?_ (trivial)
                · exact hasPrefix_ok _ _
              refine tr_then ?_
              refine tr_cond (hasPre (l.drop 1) ([45] : List UInt8)) (by kernel_rfl) (fun hc5 => ?_) (fun hc5 => ?_)
              · skip
                refine tr_seq ?_
                refine tr_seq ?_
                refine tr_r (vc := []) (E' := [(2, none, vint .u64 (word64 S)), (3, none, vstr ((cutB s 93).2.1)), (5, none, vstr (l.drop 1)), (6, none, vint .i64 (sym ((l.getD 0 0).toNat : Int))), (45, none, vbool (decide ((((l.drop 1).length : Nat) : Int) < 2)))]) (H' := []) [] [] [2, 3, 5, 6, 45] (by kernel_rfl) ?_ ?_
                · exact trivial
                refine tr_then ?_
                refine tr_condP (decide ((((l.drop 1).length : Nat) : Int) < 2)) ((((l.drop 1).length : Nat) : Int) < 2) (by simp) (by kernel_rfl) (fun hc6 => ?_) (fun hc6 => ?_)
                · skip
                  refine tr_seq ?_
                  refine tr_r (vc := []) (E' := [(2, none, vint .u64 0), (3, none, vstr ([] : List UInt8)), (4, none, vbool false)]) (H' := []) [] [] [2, 3, 4] (by kernel_rfl) ?_ ?_
                  · exact trivial
                  refine tr_then ?_
                  refine tr_pre (E' := (2, none, vint .u64 (cSet (classS s))) :: [(2, none, vint .u64 0), (3, none, vstr ([] : List UInt8)), (4, none, vbool false)]) (H' := []) (fun A_ W_ hS => sl_set_imp (d := vint .u64 0) 2 (vint .u64 (cSet (classS s))) (by kernel_rfl) ?_ hS) ?_
                  · refine imp_eq (congrArg (fun x => D.p ((eK .u64) x)) (a₁ := 0) (a₂ := (cSet (classS s))) ?_)
                    first | (rw [class_some hc1 (by rw [← hi0_0, memb_nil (by omega)])]; rfl) | ((first | (rw [class_none hc1 (by rw [← hi0_0]; exact memb_1 (by omega) hi0_1 (by assumption))]) | (rw [class_none hc1 (by rw [← hi0_0]; exact memb_2 (by omega) hi0_1 (by assumption) (by assumption) (by omega))]) | (rw [class_none hc1 (by rw [← hi0_0]; exact memb_3 (by omega) hi0_1 (by assumption) (by assumption) (by omega) (by assumption))])); rfl)
                  refine tr_pre (E' := [(2, none, vint .u64 (cSet (classS s))), (3, none, vstr ([] : List UInt8)), (4, none, vbool false)]) (H' := []) (fun A_ W_ hS => sl_proj (ts := [2, 3, 4]) (by kernel_rfl) hS) ?_
                  refine tr_pre (E' := (3, none, vstr (cRest (classS s))) :: [(2, none, vint .u64 (cSet (classS s))), (3, none, vstr ([] : List UInt8)), (4, none, vbool false)]) (H' := []) (fun A_ W_ hS => sl_set_imp (d := vstr ([] : List UInt8)) 3 (vstr (cRest (classS s))) (by kernel_rfl) ?_ hS) ?_
                  · refine imp_eq (congrArg (fun x => D.p (eS x)) (a₁ := ([] : List UInt8)) (a₂ := (cRest (classS s))) ?_)
                    first | (rw [class_some hc1 (by rw [← hi0_0, memb_nil (by omega)])]; rfl) | ((first | (rw [class_none hc1 (by rw [← hi0_0]; exact memb_1 (by omega) hi0_1 (by assumption))]) | (rw [class_none hc1 (by rw [← hi0_0]; exact memb_2 (by omega) hi0_1 (by assumption) (by assumption) (by omega))]) | (rw [class_none hc1 (by rw [← hi0_0]; exact memb_3 (by omega) hi0_1 (by assumption) (by assumption) (by omega) (by assumption))])); rfl)
                  refine tr_pre (E' := [(2, none, vint .u64 (cSet (classS s))), (3, none, vstr (cRest (classS s))), (4, none, vbool false)]) (H' := []) (fun A_ W_ hS => sl_proj (ts := [2, 3, 4]) (by kernel_rfl) hS) ?_
                  refine tr_pre (E' := (4, none, vbool ((classS s).isSome)) :: [(2, none, vint .u64 (cSet (classS s))), (3, none, vstr (cRest (classS s))), (4, none, vbool false)]) (H' := []) (fun A_ W_ hS => sl_set_imp (d := vbool false) 4 (vbool ((classS s).isSome)) (by kernel_rfl) ?_ hS) ?_
                  · refine imp_eq (congrArg (fun x => D.p (eB x)) (a₁ := false) (a₂ := ((classS s).isSome)) ?_)
                    first | (rw [class_some hc1 (by rw [← hi0_0, memb_nil (by omega)])]; rfl) | ((first | (rw [class_none hc1 (by rw [← hi0_0]; exact memb_1 (by omega) hi0_1 (by assumption))]) | (rw [class_none hc1 (by rw [← hi0_0]; exact memb_2 (by omega) hi0_1 (by assumption) (by assumption) (by omega))]) | (rw [class_none hc1 (by rw [← hi0_0]; exact memb_3 (by omega) hi0_1 (by assumption) (by assumption) (by omega) (by assumption))])); rfl)
                  refine tr_pre (E' := [(2, none, vint .u64 (cSet (classS s))), (3, none, vstr (cRest (classS s))), (4, none, vbool ((classS s).isSome))]) (H' := []) (fun A_ W_ hS => sl_proj (ts := [2, 3, 4]) (by kernel_rfl) hS) ?_
                  exact tr_return' (vc := []) (ds := [vint .u64 (cSet (classS s)), vstr (cRest (classS s)), vbool ((classS s).isSome)]) (by kernel_rfl) trivial (by kernel_rfl) (fun _ _ h => h)
                · skip
                  refine tr_skip ?_
                  refine tr_then ?_
                  refine tr_seq ?_
                  refine tr_r (vc := [(0 : Int) ≤ 1, 1 < ((l.drop 1).length : Int), Pure Try.prog 42 [.v (.int .u8 (((l.drop 1).getD 1 0).toNat : Int))] (vint .i64 (sym (((l.drop 1).getD 1 0).toNat : Int)))]) (E' := [(2, none, vint .u64 (word64 S)), (3, none, vstr ((cutB s 93).2.1)), (5, none, vstr (l.drop 1)), (6, none, vint .i64 (sym ((l.getD 0 0).toNat : Int))), (7, none, vint .i64 (sym (((l.drop 1).getD 1 0).toNat : Int)))]) (H' := []) [] [(2, vint .i64 (sym (((l.drop 1).getD 1 0).toNat : Int)))] [2, 3, 5, 6, 7] (by kernel_rfl) ?_ ?_
                  · refine al ?_ (al ?_ (al ?_ (trivial)))
                    · first | omega | (intro hg; simp at hg; omega) | (simp; done) | (simp_all; done) | (simp_all; omega) | grind
                    · first | omega | (intro hg; simp at hg; omega) | (simp; done) | (simp_all; done) | (simp_all; omega) | grind
                    · first | exact namesSymbolB_ok _ | exact namesSymbol_ok _ (by omega) (by omega)
                  refine tr_then ?_
                  refine tr_seq ?_
                  refine tr_r (vc := [(0 : Int) ≤ 2, 2 ≤ ((l.drop 1).length : Int), ((l.drop 1).length : Int) ≤ ((l.drop 1).length : Int), (((l.drop 1).drop 2).take (((l.drop 1).length) - 2)) = ((l.drop 1).drop 2)]) (E' := [(2, none, vint .u64 (word64 S)), (3, none, vstr ((cutB s 93).2.1)), (5, none, vstr ((l.drop 1).drop 2)), (6, none, vint .i64 (sym ((l.getD 0 0).toNat : Int))), (7, none, vint .i64 (sym (((l.drop 1).getD 1 0).toNat : Int)))]) (H' := []) [(1, vstr ((l.drop 1).drop 2))] [] [2, 3, 5, 6, 7] (by kernel_rfl) ?_ ?_
                  · refine al ?_ (al ?_ (al ?_ (al ?_ (trivial))))
                    · first | omega | (intro hg; simp at hg; omega) | (simp; done) | (simp_all; done) | (simp_all; omega) | grind
                    · first | omega | (intro hg; simp at hg; omega) | (simp; done) | (simp_all; done) | (simp_all; omega) | grind
                    · first | omega | (intro hg; simp at hg; omega) | (simp; done) | (simp_all; done) | (simp_all; omega) | grind
                    · exact cut_drop_str
                  refine tr_then ?_
                  refine tr_seq ?_
                  refine tr_r (vc := [(!(decide ((sym (((l.drop 1).getD 1 0).toNat : Int)) < (sym ((l.getD 0 0).toNat : Int))))) = true → (!(decide ((sym (((l.drop 1).getD 1 0).toNat : Int)) < (sym ((l.getD 0 0).toNat : Int))))) = true, (!(decide ((sym (((l.drop 1).getD 1 0).toNat : Int)) < (sym ((l.getD 0 0).toNat : Int))))) = true → (!(decide ((sym (((l.drop 1).getD 1 0).toNat : Int)) < (sym ((l.getD 0 0).toNat : Int))))) = true, (!((decide ((sym (((l.drop 1).getD 1 0).toNat : Int)) < (sym ((l.getD 0 0).toNat : Int)))) || ((sym (((l.drop 1).getD 1 0).toNat : Int)) == 36))) = true → (!((decide ((sym (((l.drop 1).getD 1 0).toNat : Int)) < (sym ((l.getD 0 0).toNat : Int)))) || ((sym (((l.drop 1).getD 1 0).toNat : Int)) == 36))) = true, (!((decide ((sym (((l.drop 1).getD 1 0).toNat : Int)) < (sym ((l.getD 0 0).toNat : Int)))) || ((sym (((l.drop 1).getD 1 0).toNat : Int)) == 36))) = true → (!((decide ((sym (((l.drop 1).getD 1 0).toNat : Int)) < (sym ((l.getD 0 0).toNat : Int)))) || ((sym (((l.drop 1).getD 1 0).toNat : Int)) == 36))) = true, ((!((decide ((sym (((l.drop 1).getD 1 0).toNat : Int)) < (sym ((l.getD 0 0).toNat : Int)))) || ((sym (((l.drop 1).getD 1 0).toNat : Int)) == 36))) && (decide ((sym ((l.getD 0 0).toNat : Int)) < 26))) = true → ((!((decide ((sym (((l.drop 1).getD 1 0).toNat : Int)) < (sym ((l.getD 0 0).toNat : Int)))) || ((sym (((l.drop 1).getD 1 0).toNat : Int)) == 36))) && (decide ((sym ((l.getD 0 0).toNat : Int)) < 26))) = true, (!((decide ((sym (((l.drop 1).getD 1 0).toNat : Int)) < (sym ((l.getD 0 0).toNat : Int)))) || ((sym (((l.drop 1).getD 1 0).toNat : Int)) == 36))) = true → ((!((decide ((sym (((l.drop 1).getD 1 0).toNat : Int)) < (sym ((l.getD 0 0).toNat : Int)))) || ((sym (((l.drop 1).getD 1 0).toNat : Int)) == 36))) = true → (!((decide ((sym (((l.drop 1).getD 1 0).toNat : Int)) < (sym ((l.getD 0 0).toNat : Int)))) || ((sym (((l.drop 1).getD 1 0).toNat : Int)) == 36))) = true), ((!((decide ((sym (((l.drop 1).getD 1 0).toNat : Int)) < (sym ((l.getD 0 0).toNat : Int)))) || ((sym (((l.drop 1).getD 1 0).toNat : Int)) == 36))) && (decide ((sym ((l.getD 0 0).toNat : Int)) < 26))) = true → ((!((decide ((sym (((l.drop 1).getD 1 0).toNat : Int)) < (sym ((l.getD 0 0).toNat : Int)))) || ((sym (((l.drop 1).getD 1 0).toNat : Int)) == 36))) && (decide ((sym ((l.getD 0 0).toNat : Int)) < 26))) = true, (!((decide ((sym (((l.drop 1).getD 1 0).toNat : Int)) < (sym ((l.getD 0 0).toNat : Int)))) || ((sym (((l.drop 1).getD 1 0).toNat : Int)) == 36))) = true → (!((decide ((sym (((l.drop 1).getD 1 0).toNat : Int)) < (sym ((l.getD 0 0).toNat : Int)))) || ((sym (((l.drop 1).getD 1 0).toNat : Int)) == 36))) = true]) (E' := [(2, none, vint .u64 (word64 S)), (3, none, vstr ((cutB s 93).2.1)), (5, none, vstr ((l.drop 1).drop 2)), (6, none, vint .i64 (sym ((l.getD 0 0).toNat : Int))), (7, none, vint .i64 (sym (((l.drop 1).getD 1 0).toNat : Int))), (65, none, vbool (((decide ((sym (((l.drop 1).getD 1 0).toNat : Int)) < (sym ((l.getD 0 0).toNat : Int)))) || ((sym (((l.drop 1).getD 1 0).toNat : Int)) == 36)) || ((decide ((sym ((l.getD 0 0).toNat : Int)) < 26)) && (decide (26 ≤ (sym (((l.drop 1).getD 1 0).toNat : Int)))))))]) (H' := []) [] [] [2, 3, 5, 6, 7, 65] (by kernel_rfl) ?_ ?_
                  · refine al ?_ (al ?_ (al ?_ (al ?_ (al ?_ (al ?_ (al ?_ (al ?_ (trivial))))))))
                    · exact id
                    · exact id
                    · exact id
                    · exact id
                    · exact id
                    · intro _; exact id
                    · exact id
                    · exact id
                  refine tr_then ?_
                  refine tr_condP (((decide ((sym (((l.drop 1).getD 1 0).toNat : Int)) < (sym ((l.getD 0 0).toNat : Int)))) || ((sym (((l.drop 1).getD 1 0).toNat : Int)) == 36)) || ((decide ((sym ((l.getD 0 0).toNat : Int)) < 26)) && (decide (26 ≤ (sym (((l.drop 1).getD 1 0).toNat : Int)))))) ((((sym (((l.drop 1).getD 1 0).toNat : Int)) < (sym ((l.getD 0 0).toNat : Int))) ∨ ((sym (((l.drop 1).getD 1 0).toNat : Int)) = 36)) ∨ (((sym ((l.getD 0 0).toNat : Int)) < 26) ∧ (26 ≤ (sym (((l.drop 1).getD 1 0).toNat : Int))))) (by simp) (by kernel_rfl) (fun hc7 => ?_) (fun hc7 => ?_)
                  · skip
                    refine tr_seq ?_
                    refine tr_r (vc := []) (E' := [(2, none, vint .u64 0), (3, none, vstr ([] : List UInt8)), (4, none, vbool false)]) (H' := []) [] [] [2, 3, 4] (by kernel_rfl) ?_ ?_
                    · exact trivial
                    refine tr_then ?_
                    refine tr_pre (E' := (2, none, vint .u64 (cSet (classS s))) :: [(2, none, vint .u64 0), (3, none, vstr ([] : List UInt8)), (4, none, vbool false)]) (H' := []) (fun A_ W_ hS => sl_set_imp (d := vint .u64 0) 2 (vint .u64 (cSet (classS s))) (by kernel_rfl) ?_ hS) ?_
                    · refine imp_eq (congrArg (fun x => D.p ((eK .u64) x)) (a₁ := 0) (a₂ := (cSet (classS s))) ?_)
                      first | (rw [class_some hc1 (by rw [← hi0_0, memb_nil (by omega)])]; rfl) | ((first | (rw [class_none hc1 (by rw [← hi0_0]; exact memb_1 (by omega) hi0_1 (by assumption))]) | (rw [class_none hc1 (by rw [← hi0_0]; exact memb_2 (by omega) hi0_1 (by assumption) (by assumption) (by omega))]) | (rw [class_none hc1 (by rw [← hi0_0]; exact memb_3 (by omega) hi0_1 (by assumption) (by assumption) (by omega) (by assumption))])); rfl)
                    refine tr_pre (E' := [(2, none, vint .u64 (cSet (classS s))), (3, none, vstr ([] : List UInt8)), (4, none, vbool false)]) (H' := []) (fun A_ W_ hS => sl_proj (ts := [2, 3, 4]) (by kernel_rfl) hS) ?_
                    refine tr_pre (E' := (3, none, vstr (cRest (classS s))) :: [(2, none, vint .u64 (cSet (classS s))), (3, none, vstr ([] : List UInt8)), (4, none, vbool false)]) (H' := []) (fun A_ W_ hS => sl_set_imp (d := vstr ([] : List UInt8)) 3 (vstr (cRest (classS s))) (by kernel_rfl) ?_ hS) ?_
                    · refine imp_eq (congrArg (fun x => D.p (eS x)) (a₁ := ([] : List UInt8)) (a₂ := (cRest (classS s))) ?_)
                      first | (rw [class_some hc1 (by rw [← hi0_0, memb_nil (by omega)])]; rfl) | ((first | (rw [class_none hc1 (by rw [← hi0_0]; exact memb_1 (by omega) hi0_1 (by assumption))]) | (rw [class_none hc1 (by rw [← hi0_0]; exact memb_2 (by omega) hi0_1 (by assumption) (by assumption) (by omega))]) | (rw [class_none hc1 (by rw [← hi0_0]; exact memb_3 (by omega) hi0_1 (by assumption) (by assumption) (by omega) (by assumption))])); rfl)
                    refine tr_pre (E' := [(2, none, vint .u64 (cSet (classS s))), (3, none, vstr (cRest (classS s))), (4, none, vbool false)]) (H' := []) (fun A_ W_ hS => sl_proj (ts := [2, 3, 4]) (by kernel_rfl) hS) ?_
                    refine tr_pre (E' := (4, none, vbool ((classS s).isSome)) :: [(2, none, vint .u64 (cSet (classS s))), (3, none, vstr (cRest (classS s))), (4, none, vbool false)]) (H' := []) (fun A_ W_ hS => sl_set_imp (d := vbool false) 4 (vbool ((classS s).isSome)) (by kernel_rfl) ?_ hS) ?_
                    · refine imp_eq (congrArg (fun x => D.p (eB x)) (a₁ := false) (a₂ := ((classS s).isSome)) ?_)
                      first | (rw [class_some hc1 (by rw [← hi0_0, memb_nil (by omega)])]; rfl) | ((first | (rw [class_none hc1 (by rw [← hi0_0]; exact memb_1 (by omega) hi0_1 (by assumption))]) | (rw [class_none hc1 (by rw [← hi0_0]; exact memb_2 (by omega) hi0_1 (by assumption) (by assumption) (by omega))]) | (rw [class_none hc1 (by rw [← hi0_0]; exact memb_3 (by omega) hi0_1 (by assumption) (by assumption) (by omega) (by assumption))])); rfl)
                    refine tr_pre (E' := [(2, none, vint .u64 (cSet (classS s))), (3, none, vstr (cRest (classS s))), (4, none, vbool ((classS s).isSome))]) (H' := []) (fun A_ W_ hS => sl_proj (ts := [2, 3, 4]) (by kernel_rfl) hS) ?_
                    exact tr_return' (vc := []) (ds := [vint .u64 (cSet (classS s)), vstr (cRest (classS s)), vbool ((classS s).isSome)]) (by kernel_rfl) trivial (by kernel_rfl) (fun _ _ h => h)
                  · skip
                    refine tr_skip ?_
                    refine jn_end ((sym (((l.drop 1).getD 1 0).toNat : Int)), ((l.drop 1).drop 2)) ?_ ?_
                    · show (memb k l S = memb (k - 1) ((l.drop 1).drop 2) (range S (s0 l) ((sym (((l.drop 1).getD 1 0).toNat : Int)) + 1))) ∧ (((l.drop 1).drop 2).length < l.length) ∧ ((sym (((l.drop 1).getD 1 0).toNat : Int)) ≤ 36) ∧ (s0 l ≤ (sym (((l.drop 1).getD 1 0).toNat : Int)))
                      refine ⟨?_, ?_, ?_, ?_⟩
                      · first | exact memb_4 (by omega) hi0_1 (by assumption) (by assumption) (by omega) (by assumption) | exact memb_5 (by omega) hi0_1 (by assumption) (by simpa using hc5)
                      · simp only [List.length_drop]; omega
                      · first | omega | (intro hg; simp at hg; omega) | (simp; done) | (simp_all; done) | (simp_all; omega) | grind
                      · first | omega | (intro hg; simp at hg; omega) | (simp; done) | (simp_all; done) | (simp_all; omega) | grind
                    · intro A_ W_ hS
                      exact sl_weak (vc := []) [] [2, 3, 5, 6, 7] (by kernel_rfl) trivial hS
              · skip
                refine tr_skip ?_
                refine jn_end ((sym ((l.getD 0 0).toNat : Int)), (l.drop 1)) ?_ ?_
                · show (memb k l S = memb (k - 1) (l.drop 1) (range S (s0 l) ((sym ((l.getD 0 0).toNat : Int)) + 1))) ∧ ((l.drop 1).length < l.length) ∧ ((sym ((l.getD 0 0).toNat : Int)) ≤ 36) ∧ (s0 l ≤ (sym ((l.getD 0 0).toNat : Int)))
                  refine ⟨?_, ?_, ?_, ?_⟩
                  · first | exact memb_4 (by omega) hi0_1 (by assumption) (by assumption) (by omega) (by assumption) | exact memb_5 (by omega) hi0_1 (by assumption) (by simpa using hc5)
                  · simp only [List.length_drop]; omega
                  · first | omega | (intro hg; simp at hg; omega) | (simp; done) | (simp_all; done) | (simp_all; omega) | grind
                  · first | omega | (intro hg; simp at hg; omega) | (simp; done) | (simp_all; done) | (simp_all; omega) | grind
                · intro A_ W_ hS
                  exact sl_weak (vc := []) [] [2, 3, 5, 6, 7] (by kernel_rfl) trivial hS
        · skip
          refine tr_exit ?_
          refine th_e ?_
          refine th_e ?_
          refine in_hit ?_
          refine tr_then ?_
          refine tr_seq ?_
          refine tr_r (vc := []) (E' := [(2, none, vint .u64 (word64 S)), (3, none, vstr ((cutB s 93).2.1)), (4, none, vbool true)]) (H' := []) [] [] [2, 3, 4] (by kernel_rfl) ?_ ?_
          · exact trivial
          refine tr_then ?_
          refine tr_pre (E' := (2, none, vint .u64 (cSet (classS s))) :: [(2, none, vint .u64 (word64 S)), (3, none, vstr ((cutB s 93).2.1)), (4, none, vbool true)]) (H' := []) (fun A_ W_ hS => sl_set_imp (d := vint .u64 (word64 S)) 2 (vint .u64 (cSet (classS s))) (by kernel_rfl) ?_ hS) ?_
          · refine imp_eq (congrArg (fun x => D.p ((eK .u64) x)) (a₁ := (word64 S)) (a₂ := (cSet (classS s))) ?_)
            first | (rw [class_some hc1 (by rw [← hi0_0, memb_nil (by omega)])]; rfl) | ((first | (rw [class_none hc1 (by rw [← hi0_0]; exact memb_1 (by omega) hi0_1 (by assumption))]) | (rw [class_none hc1 (by rw [← hi0_0]; exact memb_2 (by omega) hi0_1 (by assumption) (by assumption) (by omega))]) | (rw [class_none hc1 (by rw [← hi0_0]; exact memb_3 (by omega) hi0_1 (by assumption) (by assumption) (by omega) (by assumption))])); rfl)
          refine tr_pre (E' := [(2, none, vint .u64 (cSet (classS s))), (3, none, vstr ((cutB s 93).2.1)), (4, none, vbool true)]) (H' := []) (fun A_ W_ hS => sl_proj (ts := [2, 3, 4]) (by kernel_rfl) hS) ?_
          refine tr_pre (E' := (3, none, vstr (cRest (classS s))) :: [(2, none, vint .u64 (cSet (classS s))), (3, none, vstr ((cutB s 93).2.1)), (4, none, vbool true)]) (H' := []) (fun A_ W_ hS => sl_set_imp (d := vstr ((cutB s 93).2.1)) 3 (vstr (cRest (classS s))) (by kernel_rfl) ?_ hS) ?_
          · refine imp_eq (congrArg (fun x => D.p (eS x)) (a₁ := ((cutB s 93).2.1)) (a₂ := (cRest (classS s))) ?_)
            first | (rw [class_some hc1 (by rw [← hi0_0, memb_nil (by omega)])]; rfl) | ((first | (rw [class_none hc1 (by rw [← hi0_0]; exact memb_1 (by omega) hi0_1 (by assumption))]) | (rw [class_none hc1 (by rw [← hi0_0]; exact memb_2 (by omega) hi0_1 (by assumption) (by assumption) (by omega))]) | (rw [class_none hc1 (by rw [← hi0_0]; exact memb_3 (by omega) hi0_1 (by assumption) (by assumption) (by omega) (by assumption))])); rfl)
          refine tr_pre (E' := [(2, none, vint .u64 (cSet (classS s))), (3, none, vstr (cRest (classS s))), (4, none, vbool true)]) (H' := []) (fun A_ W_ hS => sl_proj (ts := [2, 3, 4]) (by kernel_rfl) hS) ?_
          refine tr_pre (E' := (4, none, vbool ((classS s).isSome)) :: [(2, none, vint .u64 (cSet (classS s))), (3, none, vstr (cRest (classS s))), (4, none, vbool true)]) (H' := []) (fun A_ W_ hS => sl_set_imp (d := vbool true) 4 (vbool ((classS s).isSome)) (by kernel_rfl) ?_ hS) ?_
          · refine imp_eq (congrArg (fun x => D.p (eB x)) (a₁ := true) (a₂ := ((classS s).isSome)) ?_)
            first | (rw [class_some hc1 (by rw [← hi0_0, memb_nil (by omega)])]; rfl) | ((first | (rw [class_none hc1 (by rw [← hi0_0]; exact memb_1 (by omega) hi0_1 (by assumption))]) | (rw [class_none hc1 (by rw [← hi0_0]; exact memb_2 (by omega) hi0_1 (by assumption) (by assumption) (by omega))]) | (rw [class_none hc1 (by rw [← hi0_0]; exact memb_3 (by omega) hi0_1 (by assumption) (by assumption) (by omega) (by assumption))])); rfl)
          refine tr_pre (E' := [(2, none, vint .u64 (cSet (classS s))), (3, none, vstr (cRest (classS s))), (4, none, vbool ((classS s).isSome))]) (H' := []) (fun A_ W_ hS => sl_proj (ts := [2, 3, 4]) (by kernel_rfl) hS) ?_
          exact tr_return' (vc := []) (ds := [vint .u64 (cSet (classS s)), vstr (cRest (classS s)), vbool ((classS s).isSome)]) (by kernel_rfl) trivial (by kernel_rfl) (fun _ _ h => h)
    · skip
      refine tr_seq ?_
      refine tr_r (vc := [(0 : Int) ≤ 0, 0 < (((cutB s 93).1).length : Int)]) (E' := [(2, none, vint .u64 0), (3, none, vstr ((cutB s 93).2.1)), (5, none, vstr ((cutB s 93).1)), (23, none, vbool (((((cutB s 93).1).getD 0 0).toNat : Int) == 45))]) (H' := []) [] [] [2, 3, 5, 23] (by kernel_rfl) ?_ ?_
      · refine al ?_ (al ?_ (trivial))
        · first | omega | (intro hg; simp at hg; omega) | (simp; done) | (simp_all; done) | (simp_all; omega) | grind
        · have := List.length_pos_iff.2 (fun h => hc1 (.inr h)); omega
      refine tr_then ?_
      refine tr_condP (((((cutB s 93).1).getD 0 0).toNat : Int) == 45) (((((cutB s 93).1).getD 0 0).toNat : Int) = 45) (by simp) (by kernel_rfl) (fun hc8 => ?_) (fun hc8 => ?_)
      · skip
        refine tr_d (vc := [(0 : Int) ≤ 1, 1 ≤ (((cutB s 93).1).length : Int), (((cutB s 93).1).length : Int) ≤ (((cutB s 93).1).length : Int), ((((cutB s 93).1).drop 1).take ((((cutB s 93).1).length) - 1)) = (((cutB s 93).1).drop 1)]) (E' := [(2, none, vint .u64 68719476736), (3, none, vstr ((cutB s 93).2.1)), (5, none, vstr (((cutB s 93).1).drop 1))]) [(1, vstr (((cutB s 93).1).drop 1))] [] [2, 3, 5] (by kernel_rfl) (by kernel_rfl) (by kernel_rfl) ?_ ?_
        · refine al ?_ (al ?_ (al ?_ (al ?_ (trivial))))
          · first | omega | (intro hg; simp at hg; omega) | (simp; done) | (simp_all; done) | (simp_all; omega) | grind
          · first | omega | (intro hg; simp at hg; omega) | (simp; done) | (simp_all; done) | (simp_all; omega) | grind
          · first | omega | (intro hg; simp at hg; omega) | (simp; done) | (simp_all; done) | (simp_all; omega) | grind
          · exact cut_drop_str
        refine jn_end ((((cutB s 93).1).drop 1), (upd noSet 36 true)) ?_ ?_
        · show (memb (cutB s 93).1.length (((cutB s 93).1).drop 1) (upd noSet 36 true) = classM (cutB s 93).1) ∧ ((((cutB s 93).1).drop 1).length ≤ (cutB s 93).1.length)
          refine ⟨?_, ?_⟩
          · first | (unfold classM; rw [if_pos (by omega)]) | (unfold classM; rw [if_neg (by omega)])
          · first | (simp; done) | (simp; omega) | omega
        · intro A_ W_ hS
          replace hS := sl_set (d := vint .u64 68719476736) 2 (vint .u64 (word64 (upd noSet 36 true))) (by kernel_rfl) (eqD_int (by first | exact word64_noSet.symm | exact word64_36.symm)) hS
          exact sl_weak (vc := []) [] [2, 3, 5] (by kernel_rfl) trivial hS
      · skip
        refine tr_skip ?_
        refine jn_end ((cutB s 93).1, noSet) ?_ ?_
        · show (memb (cutB s 93).1.length ((cutB s 93).1) noSet = classM (cutB s 93).1) ∧ (((cutB s 93).1).length ≤ (cutB s 93).1.length)
          refine ⟨?_, ?_⟩
          · first | (unfold classM; rw [if_pos (by omega)]) | (unfold classM; rw [if_neg (by omega)])
          · first | (simp; done) | (simp; omega) | omega
        · intro A_ W_ hS
          replace hS := sl_set (d := vint .u64 0) 2 (vint .u64 (word64 noSet)) (by kernel_rfl) (eqD_int (by first | exact word64_noSet.symm | exact word64_36.symm)) hS
          exact sl_weak (vc := []) [] [2, 3, 5] (by kernel_rfl) trivial hS
end Go.Proofs.Ytjnjmnfacaakfaa
namespace Go.Proofs.Ytjnjmnfacaakfaa
open Go.Eng
theorem shl_word (n : Int) (h0 : 0 ≤ n) (h1 : n < 64) : IntKind.wrap .u64 (1 * 2 ^ min n.toNat (IntKind.bits .u64)) = word64 (upd noSet n.toNat true) := by
  obtain ⟨i, rfl⟩ := Int.eq_ofNat_of_zero_le h0
  have hi : i < 64 := by omega
  show IntKind.wrap .u64 (1 * 2 ^ min ((i : Int)).toNat (IntKind.bits .u64)) = word64 (upd noSet i true)
  rw [shl_u64 hi]
  unfold word64
  rw [← wordN_or noSet hi]
  have : wordN noSet 64 = 0 := by decide +kernel
  rw [this, Nat.zero_or]
def pSet (s : List UInt8) : Option ((Nat → Bool) × List UInt8) := if ((s.getD 0 0).toNat : Int) = 91 then classS (s.drop 1) else if 0 ≤ sym (s.getD 0 0).toNat then some (upd noSet (sym (s.getD 0 0).toNat).toNat true, s.drop 1) else none
def moreB (b : UInt8) : Bool := decide (0 ≤ Lib.indexByte ([63, 43, 42] : List UInt8) (b.toNat : Int).toNat.toUInt8)
def pHas (x : Option ((Nat → Bool) × List UInt8)) : Prop := x.isSome = true ∧ cRest x ≠ [] ∧ moreB ((cRest x).getD 0 0) = true
instance (x : Option ((Nat → Bool) × List UInt8)) : Decidable (pHas x) := inferInstanceAs (Decidable (_ ∧ _))
def pMore (x : Option ((Nat → Bool) × List UInt8)) : Int := if pHas x then ((cRest x).getD 0 0).toNat else 0
def pRest (x : Option ((Nat → Bool) × List UInt8)) : List UInt8 := if pHas x then (cRest x).drop 1 else cRest x
theorem pSet_1 {s : List UInt8} (h : ((s.getD 0 0).toNat : Int) = 91) : pSet s = classS (s.drop 1) := if_pos h
theorem pSet_2 {s : List UInt8} (h : ¬ ((s.getD 0 0).toNat : Int) = 91) (h1 : 0 ≤ sym (s.getD 0 0).toNat) : pSet s = some (upd noSet (sym (s.getD 0 0).toNat).toNat true, s.drop 1) := by rw [pSet, if_neg h, if_pos h1]
theorem pSet_3 {s : List UInt8} (h : ¬ ((s.getD 0 0).toNat : Int) = 91) (h1 : ¬ 0 ≤ sym (s.getD 0 0).toNat) : pSet s = none := by rw [pSet, if_neg h, if_neg h1]
theorem pHas_of {x : Option ((Nat → Bool) × List UInt8)} : ((x.isSome = true ∧ ¬ cRest x = []) ∧ 0 ≤ Lib.indexByte ([63, 43, 42] : List UInt8) (((cRest x).getD 0 0).toNat : Int).toNat.toUInt8) ↔ pHas x := by
  unfold pHas moreB
  rw [decide_eq_true_eq, and_assoc]
theorem piece_ok (s : List UInt8) (hb0 : s.length < 4611686018427387904) (hb1 : 0 < s.length) : Pure Try.prog 47 [.s s] (.tup [vint .u64 (cSet (pSet s)), vint .u8 (pMore (pSet s)), vstr (pRest (pSet s)), vbool ((pSet s).isSome)]) := by
  refine pure_of (fn := Try.f47) Try.func47 rfl rfl fun F_ W0_ => ?_
  refine tr_seq ?_
  refine tr_r (vc := []) (E' := [(0, none, vstr s), (2, none, vint .u64 0), (3, none, vint .u8 0), (4, none, vstr ([] : List UInt8)), (5, none, vbool false)]) (H' := []) [] [] [0, 2, 3, 4, 5] (by kernel_rfl) ?_ ?_
  · exact trivial
  refine tr_then ?_
  refine tr_join (α := Unit) (fun z : Unit => [(2, none, vint .u64 (cSet (pSet s))), (3, none, vint .u8 0), (4, none, vstr (cRest (pSet s))), (5, none, vbool ((pSet s).isSome))]) (fun z : Unit => []) (fun z : Unit => True) ?_ ?_
  · intro z hz
    refine tr_seq ?_
    refine tr_seq ?_
    refine tr_r (vc := [((pSet s).isSome) = true → ((pSet s).isSome) = true, ((pSet s).isSome) = true → ((pSet s).isSome) = true, (((pSet s).isSome) && (!((cRest (pSet s)) == ([] : List UInt8)))) = true → (((pSet s).isSome) && (!((cRest (pSet s)) == ([] : List UInt8)))) = true, (((pSet s).isSome) && (!((cRest (pSet s)) == ([] : List UInt8)))) = true → ((0 : Int) ≤ 0), (((pSet s).isSome) && (!((cRest (pSet s)) == ([] : List UInt8)))) = true → (0 < ((cRest (pSet s)).length : Int)), (((pSet s).isSome) && (!((cRest (pSet s)) == ([] : List UInt8)))) = true → (((pSet s).isSome) && (!((cRest (pSet s)) == ([] : List UInt8)))) = true, (((pSet s).isSome) && (!((cRest (pSet s)) == ([] : List UInt8)))) = true → (Pure Try.prog 51 [.s ([63, 43, 42] : List UInt8), .v (.int .u8 (((cRest (pSet s)).getD 0 0).toNat : Int))] (vint .i64 (Lib.indexByte ([63, 43, 42] : List UInt8) (((cRest (pSet s)).getD 0 0).toNat : Int).toNat.toUInt8))), (((pSet s).isSome) && (!((cRest (pSet s)) == ([] : List UInt8)))) = true → (((pSet s).isSome) && (!((cRest (pSet s)) == ([] : List UInt8)))) = true, (((pSet s).isSome) && (!((cRest (pSet s)) == ([] : List UInt8)))) = true → (((pSet s).isSome) && (!((cRest (pSet s)) == ([] : List UInt8)))) = true]) (E' := [(2, none, vint .u64 (cSet (pSet s))), (3, none, vint .u8 0), (4, none, vstr (cRest (pSet s))), (5, none, vbool ((pSet s).isSome)), (36, none, vbool ((((pSet s).isSome) && (!((cRest (pSet s)) == ([] : List UInt8)))) && (decide (0 ≤ (Lib.indexByte ([63, 43, 42] : List UInt8) (((cRest (pSet s)).getD 0 0).toNat : Int).toNat.toUInt8)))))]) (H' := []) [] [(8, vint .i64 (Lib.indexByte ([63, 43, 42] : List UInt8) (((cRest (pSet s)).getD 0 0).toNat : Int).toNat.toUInt8))] [2, 3, 4, 5, 36] (by kernel_rfl) ?_ ?_
    · refine al ?_ (al ?_ (al ?_ (al ?_ (al ?_ (al ?_ (al ?_ (al ?_ (al ?_ (trivial)))))))))
      · exact id
      · exact id
      · exact id
      · first | omega | (simp; done) | (intro hg; simp at hg; have := List.length_pos_iff.2 hg.2; omega) | (intro hg; simp at hg; omega) | (simp_all; done) | grind
      · first | omega | (simp; done) | (intro hg; simp at hg; have := List.length_pos_iff.2 hg.2; omega) | (intro hg; simp at hg; omega) | (simp_all; done) | grind
      · exact id
      · intro _; exact indexByte_ok _ _
      · exact id
      · exact id
    refine tr_then ?_
    refine tr_condP ((((pSet s).isSome) && (!((cRest (pSet s)) == ([] : List UInt8)))) && (decide (0 ≤ (Lib.indexByte ([63, 43, 42] : List UInt8) (((cRest (pSet s)).getD 0 0).toNat : Int).toNat.toUInt8)))) (((((pSet s).isSome) = true) ∧ (¬ (cRest (pSet s)) = ([] : List UInt8))) ∧ (0 ≤ (Lib.indexByte ([63, 43, 42] : List UInt8) (((cRest (pSet s)).getD 0 0).toNat : Int).toNat.toUInt8))) (by simp) (by kernel_rfl) (fun hc1 => ?_) (fun hc1 => ?_)
    · skip
      refine tr_d (vc := [(0 : Int) ≤ 0, 0 < ((cRest (pSet s)).length : Int), (0 : Int) ≤ 1, 1 ≤ ((cRest (pSet s)).length : Int), ((cRest (pSet s)).length : Int) ≤ ((cRest (pSet s)).length : Int), (((cRest (pSet s)).drop 1).take (((cRest (pSet s)).length) - 1)) = ((cRest (pSet s)).drop 1)]) (E' := [(2, none, vint .u64 (cSet (pSet s))), (3, none, vint .u8 (((cRest (pSet s)).getD 0 0).toNat : Int)), (4, none, vstr ((cRest (pSet s)).drop 1)), (5, none, vbool ((pSet s).isSome))]) [(3, vstr ((cRest (pSet s)).drop 1))] [] [2, 3, 4, 5] (by kernel_rfl) (by kernel_rfl) (by kernel_rfl) ?_ ?_
      · refine al ?_ (al ?_ (al ?_ (al ?_ (al ?_ (al ?_ (trivial))))))
        · first | omega | (simp; done) | (intro hg; simp at hg; have := List.length_pos_iff.2 hg.2; omega) | (intro hg; simp at hg; omega) | (simp_all; done) | grind
        · first | omega | (simp; done) | (intro hg; simp at hg; have := List.length_pos_iff.2 hg.2; omega) | (intro hg; simp at hg; omega) | (simp_all; done) | grind
        · first | omega | (simp; done) | (intro hg; simp at hg; have := List.length_pos_iff.2 hg.2; omega) | (intro hg; simp at hg; omega) | (simp_all; done) | grind
        · first | omega | (simp; done) | (intro hg; simp at hg; have := List.length_pos_iff.2 hg.2; omega) | (intro hg; simp at hg; omega) | (simp_all; done) | grind
        · first | omega | (simp; done) | (intro hg; simp at hg; have := List.length_pos_iff.2 hg.2; omega) | (intro hg; simp at hg; omega) | (simp_all; done) | grind
        · exact cut_drop_str
      refine tr_then ?_
      refine tr_seq ?_
      refine tr_r (vc := []) (E' := [(2, none, vint .u64 (cSet (pSet s))), (3, none, vint .u8 (((cRest (pSet s)).getD 0 0).toNat : Int)), (4, none, vstr ((cRest (pSet s)).drop 1)), (5, none, vbool ((pSet s).isSome))]) (H' := []) [] [] [2, 3, 4, 5] (by kernel_rfl) ?_ ?_
      · exact trivial
      refine tr_then ?_
      refine tr_pre (E' := (3, none, vint .u8 (pMore (pSet s))) :: [(2, none, vint .u64 (cSet (pSet s))), (3, none, vint .u8 (((cRest (pSet s)).getD 0 0).toNat : Int)), (4, none, vstr ((cRest (pSet s)).drop 1)), (5, none, vbool ((pSet s).isSome))]) (H' := []) (fun A_ W_ hS => sl_set_imp (d := vint .u8 (((cRest (pSet s)).getD 0 0).toNat : Int)) 3 (vint .u8 (pMore (pSet s))) (by kernel_rfl) ?_ hS) ?_
      · refine imp_eq (congrArg (fun x => D.p ((eK .u8) x)) (a₁ := (((cRest (pSet s)).getD 0 0).toNat : Int)) (a₂ := (pMore (pSet s))) ?_)
        first | (rw [pMore, if_pos (pHas_of.1 hc1)]) | (rw [pRest, if_pos (pHas_of.1 hc1)]) | (rw [pMore, if_neg (fun h => hc1 (pHas_of.2 h))]) | (rw [pRest, if_neg (fun h => hc1 (pHas_of.2 h))]) | rfl
      refine tr_pre (E' := [(2, none, vint .u64 (cSet (pSet s))), (3, none, vint .u8 (pMore (pSet s))), (4, none, vstr ((cRest (pSet s)).drop 1)), (5, none, vbool ((pSet s).isSome))]) (H' := []) (fun A_ W_ hS => sl_proj (ts := [2, 3, 4, 5]) (by kernel_rfl) hS) ?_
      refine tr_pre (E' := (4, none, vstr (pRest (pSet s))) :: [(2, none, vint .u64 (cSet (pSet s))), (3, none, vint .u8 (pMore (pSet s))), (4, none, vstr ((cRest (pSet s)).drop 1)), (5, none, vbool ((pSet s).isSome))]) (H' := []) (fun A_ W_ hS => sl_set_imp (d := vstr ((cRest (pSet s)).drop 1)) 4 (vstr (pRest (pSet s))) (by kernel_rfl) ?_ hS) ?_
      · refine imp_eq (congrArg (fun x => D.p (eS x)) (a₁ := ((cRest (pSet s)).drop 1)) (a₂ := (pRest (pSet s))) ?_)
        first | (rw [pMore, if_pos (pHas_of.1 hc1)]) | (rw [pRest, if_pos (pHas_of.1 hc1)]) | (rw [pMore, if_neg (fun h => hc1 (pHas_of.2 h))]) | (rw [pRest, if_neg (fun h => hc1 (pHas_of.2 h))]) | rfl
      refine tr_pre (E' := [(2, none, vint .u64 (cSet (pSet s))), (3, none, vint .u8 (pMore (pSet s))), (4, none, vstr (pRest (pSet s))), (5, none, vbool ((pSet s).isSome))]) (H' := []) (fun A_ W_ hS => sl_proj (ts := [2, 3, 4, 5]) (by kernel_rfl) hS) ?_
      exact tr_return' (vc := []) (ds := [vint .u64 (cSet (pSet s)), vint .u8 (pMore (pSet s)), vstr (pRest (pSet s)), vbool ((pSet s).isSome)]) (by kernel_rfl) trivial (by kernel_rfl) (fun _ _ h => h)
    · skip
      refine tr_skip ?_
      refine tr_then ?_
      refine tr_seq ?_
      refine tr_r (vc := []) (E' := [(2, none, vint .u64 (cSet (pSet s))), (3, none, vint .u8 0), (4, none, vstr (cRest (pSet s))), (5, none, vbool ((pSet s).isSome))]) (H' := []) [] [] [2, 3, 4, 5] (by kernel_rfl) ?_ ?_
      · exact trivial
      refine tr_then ?_
      refine tr_pre (E' := (3, none, vint .u8 (pMore (pSet s))) :: [(2, none, vint .u64 (cSet (pSet s))), (3, none, vint .u8 0), (4, none, vstr (cRest (pSet s))), (5, none, vbool ((pSet s).isSome))]) (H' := []) (fun A_ W_ hS => sl_set_imp (d := vint .u8 0) 3 (vint .u8 (pMore (pSet s))) (by kernel_rfl) ?_ hS) ?_
      · refine imp_eq (congrArg (fun x => D.p ((eK .u8) x)) (a₁ := 0) (a₂ := (pMore (pSet s))) ?_)
        first | (rw [pMore, if_pos (pHas_of.1 hc1)]) | (rw [pRest, if_pos (pHas_of.1 hc1)]) | (rw [pMore, if_neg (fun h => hc1 (pHas_of.2 h))]) | (rw [pRest, if_neg (fun h => hc1 (pHas_of.2 h))]) | rfl
      refine tr_pre (E' := [(2, none, vint .u64 (cSet (pSet s))), (3, none, vint .u8 (pMore (pSet s))), (4, none, vstr (cRest (pSet s))), (5, none, vbool ((pSet s).isSome))]) (H' := []) (fun A_ W_ hS => sl_proj (ts := [2, 3, 4, 5]) (by kernel_rfl) hS) ?_
      refine tr_pre (E' := (4, none, vstr (pRest (pSet s))) :: [(2, none, vint .u64 (cSet (pSet s))), (3, none, vint .u8 (pMore (pSet s))), (4, none, vstr (cRest (pSet s))), (5, none, vbool ((pSet s).isSome))]) (H' := []) (fun A_ W_ hS => sl_set_imp (d := vstr (cRest (pSet s))) 4 (vstr (pRest (pSet s))) (by kernel_rfl) ?_ hS) ?_
      · refine imp_eq (congrArg (fun x => D.p (eS x)) (a₁ := (cRest (pSet s))) (a₂ := (pRest (pSet s))) ?_)
        first | (rw [pMore, if_pos (pHas_of.1 hc1)]) | (rw [pRest, if_pos (pHas_of.1 hc1)]) | (rw [pMore, if_neg (fun h => hc1 (pHas_of.2 h))]) | (rw [pRest, if_neg (fun h => hc1 (pHas_of.2 h))]) | rfl
      refine tr_pre (E' := [(2, none, vint .u64 (cSet (pSet s))), (3, none, vint .u8 (pMore (pSet s))), (4, none, vstr (pRest (pSet s))), (5, none, vbool ((pSet s).isSome))]) (H' := []) (fun A_ W_ hS => sl_proj (ts := [2, 3, 4, 5]) (by kernel_rfl) hS) ?_
      exact tr_return' (vc := []) (ds := [vint .u64 (cSet (pSet s)), vint .u8 (pMore (pSet s)), vstr (pRest (pSet s)), vbool ((pSet s).isSome)]) (by kernel_rfl) trivial (by kernel_rfl) (fun _ _ h => h)
  · skip
    refine tr_seq ?_
    refine tr_r (vc := [(0 : Int) ≤ 0, 0 < (s.length : Int)]) (E' := [(0, none, vstr s), (2, none, vint .u64 0), (3, none, vint .u8 0), (4, none, vstr ([] : List UInt8)), (5, none, vbool false), (9, none, vbool (((s.getD 0 0).toNat : Int) == 91))]) (H' := []) [] [] [0, 2, 3, 4, 5, 9] (by kernel_rfl) ?_ ?_
    · refine al ?_ (al ?_ (trivial))
      · first | omega | (simp; done) | (intro hg; simp at hg; have := List.length_pos_iff.2 hg.2; omega) | (intro hg; simp at hg; omega) | (simp_all; done) | grind
      · first | omega | (simp; done) | (intro hg; simp at hg; have := List.length_pos_iff.2 hg.2; omega) | (intro hg; simp at hg; omega) | (simp_all; done) | grind
    refine tr_then ?_
    refine tr_condP (((s.getD 0 0).toNat : Int) == 91) (((s.getD 0 0).toNat : Int) = 91) (by simp) (by kernel_rfl) (fun hc2 => ?_) (fun hc2 => ?_)
    · skip
      refine tr_r (vc := [(0 : Int) ≤ 1, 1 ≤ (s.length : Int), (s.length : Int) ≤ (s.length : Int), ((s.drop 1).take (s.length - 1)) = (s.drop 1), Pure Try.prog 55 [.s (s.drop 1)] (.tup [vint .u64 (cSet (classS (s.drop 1))), vstr (cRest (classS (s.drop 1))), vbool ((classS (s.drop 1)).isSome)])]) (E' := [(2, none, vint .u64 (cSet (classS (s.drop 1)))), (3, none, vint .u8 0), (4, none, vstr (cRest (classS (s.drop 1)))), (5, none, vbool ((classS (s.drop 1)).isSome))]) (H' := []) [(1, vstr (s.drop 1))] [(2, .tup [vint .u64 (cSet (classS (s.drop 1))), vstr (cRest (classS (s.drop 1))), vbool ((classS (s.drop 1)).isSome)])] [2, 3, 4, 5] (by kernel_rfl) ?_ ?_
      · refine al ?_ (al ?_ (al ?_ (al ?_ (al ?_ (trivial)))))
        · first | omega | (simp; done) | (intro hg; simp at hg; have := List.length_pos_iff.2 hg.2; omega) | (intro hg; simp at hg; omega) | (simp_all; done) | grind
        · first | omega | (simp; done) | (intro hg; simp at hg; have := List.length_pos_iff.2 hg.2; omega) | (intro hg; simp at hg; omega) | (simp_all; done) | grind
        · first | omega | (simp; done) | (intro hg; simp at hg; have := List.length_pos_iff.2 hg.2; omega) | (intro hg; simp at hg; omega) | (simp_all; done) | grind
        · exact cut_drop_str
        · exact class_ok _ (by first | first | omega | (intro hg; simp at hg; omega) | (simp; done) | (simp_all; done) | (simp_all; omega) | grind | (simp; omega))
      refine jn_end () ?_ ?_
      · exact trivial
      · intro A_ W_ hS
        replace hS := sl_set (d := vint .u64 (cSet (classS (s.drop 1)))) 2 (vint .u64 (cSet (pSet s))) (by kernel_rfl) (eqD_int (by first | (rw [pSet_1 hc2]; done) | (rw [pSet_2 hc2 hc3]; exact shl_word _ hc3 (by have := sym_le ((s.getD 0 0).toNat : Int); omega)) | (rw [pSet_3 hc2 hc3]; rfl))) hS
        replace hS := sl_set (d := vstr (cRest (classS (s.drop 1)))) 4 (vstr (cRest (pSet s))) (by kernel_rfl) (eqD_str (by first | (rw [pSet_1 hc2]; done) | (rw [pSet_2 hc2 hc3]; rfl) | (rw [pSet_3 hc2 hc3]; rfl))) hS
        replace hS := sl_set (d := vbool ((classS (s.drop 1)).isSome)) 5 (vbool ((pSet s).isSome)) (by kernel_rfl) (eqD_bool (by first | (rw [pSet_1 hc2]; done) | (rw [pSet_2 hc2 hc3]; rfl) | (rw [pSet_3 hc2 hc3]; rfl))) hS
        exact sl_weak (vc := []) [] [2, 3, 4, 5] (by kernel_rfl) trivial hS
    · skip
      refine tr_seq ?_
      refine tr_r (vc := [(0 : Int) ≤ 0, 0 < (s.length : Int), Pure Try.prog 42 [.v (.int .u8 ((s.getD 0 0).toNat : Int))] (vint .i64 (sym ((s.getD 0 0).toNat : Int)))]) (E' := [(0, none, vstr s), (2, none, vint .u64 0), (3, none, vint .u8 0), (4, none, vstr ([] : List UInt8)), (5, none, vbool false), (6, none, vint .i64 (sym ((s.getD 0 0).toNat : Int)))]) (H' := []) [] [(2, vint .i64 (sym ((s.getD 0 0).toNat : Int)))] [0, 2, 3, 4, 5, 6] (by kernel_rfl) ?_ ?_
      · refine al ?_ (al ?_ (al ?_ (trivial)))
        · first | omega | (simp; done) | (intro hg; simp at hg; have := List.length_pos_iff.2 hg.2; omega) | (intro hg; simp at hg; omega) | (simp_all; done) | grind
        · first | omega | (simp; done) | (intro hg; simp at hg; have := List.length_pos_iff.2 hg.2; omega) | (intro hg; simp at hg; omega) | (simp_all; done) | grind
        · first | exact namesSymbolB_ok _ | exact namesSymbol_ok _ (by omega) (by omega)
      refine tr_then ?_
      refine tr_seq ?_
      refine tr_r (vc := []) (E' := [(0, none, vstr s), (2, none, vint .u64 0), (3, none, vint .u8 0), (4, none, vstr ([] : List UInt8)), (5, none, vbool false), (6, none, vint .i64 (sym ((s.getD 0 0).toNat : Int))), (21, none, vbool (decide (0 ≤ (sym ((s.getD 0 0).toNat : Int)))))]) (H' := []) [] [] [0, 2, 3, 4, 5, 6, 21] (by kernel_rfl) ?_ ?_
      · exact trivial
      refine tr_then ?_
      refine tr_condP (decide (0 ≤ (sym ((s.getD 0 0).toNat : Int)))) (0 ≤ (sym ((s.getD 0 0).toNat : Int))) (by simp) (by kernel_rfl) (fun hc3 => ?_) (fun hc3 => ?_)
      · skip
        refine tr_d (vc := [(0 : Int) ≤ (sym ((s.getD 0 0).toNat : Int)), (0 : Int) ≤ 1, 1 ≤ (s.length : Int), (s.length : Int) ≤ (s.length : Int), ((s.drop 1).take (s.length - 1)) = (s.drop 1)]) (E' := [(2, none, vint .u64 (IntKind.wrap .u64 ((1 : Int) * 2 ^ min (sym ((s.getD 0 0).toNat : Int)).toNat (IntKind.bits .u64)))), (3, none, vint .u8 0), (4, none, vstr (s.drop 1)), (5, none, vbool true)]) [(3, vstr (s.drop 1))] [] [2, 3, 4, 5] (by kernel_rfl) (by kernel_rfl) (by kernel_rfl) ?_ ?_
        · refine al ?_ (al ?_ (al ?_ (al ?_ (al ?_ (trivial)))))
          · first | omega | (simp; done) | (intro hg; simp at hg; have := List.length_pos_iff.2 hg.2; omega) | (intro hg; simp at hg; omega) | (simp_all; done) | grind
          · first | omega | (simp; done) | (intro hg; simp at hg; have := List.length_pos_iff.2 hg.2; omega) | (intro hg; simp at hg; omega) | (simp_all; done) | grind
          · first | omega | (simp; done) | (intro hg; simp at hg; have := List.length_pos_iff.2 hg.2; omega) | (intro hg; simp at hg; omega) | (simp_all; done) | grind
          · first | omega | (simp; done) | (intro hg; simp at hg; have := List.length_pos_iff.2 hg.2; omega) | (intro hg; simp at hg; omega) | (simp_all; done) | grind
          · exact cut_drop_str
        refine jn_end () ?_ ?_
        · exact trivial
        · intro A_ W_ hS
          replace hS := sl_set (d := vint .u64 (IntKind.wrap .u64 ((1 : Int) * 2 ^ min (sym ((s.getD 0 0).toNat : Int)).toNat (IntKind.bits .u64)))) 2 (vint .u64 (cSet (pSet s))) (by kernel_rfl) (eqD_int (by first | (rw [pSet_1 hc2]; done) | (rw [pSet_2 hc2 hc3]; exact shl_word _ hc3 (by have := sym_le ((s.getD 0 0).toNat : Int); omega)) | (rw [pSet_3 hc2 hc3]; rfl))) hS
          replace hS := sl_set (d := vstr (s.drop 1)) 4 (vstr (cRest (pSet s))) (by kernel_rfl) (eqD_str (by first | (rw [pSet_1 hc2]; done) | (rw [pSet_2 hc2 hc3]; rfl) | (rw [pSet_3 hc2 hc3]; rfl))) hS
          replace hS := sl_set (d := vbool true) 5 (vbool ((pSet s).isSome)) (by kernel_rfl) (eqD_bool (by first | (rw [pSet_1 hc2]; done) | (rw [pSet_2 hc2 hc3]; rfl) | (rw [pSet_3 hc2 hc3]; rfl))) hS
          exact sl_weak (vc := []) [] [2, 3, 4, 5] (by kernel_rfl) trivial hS
      · skip
        refine tr_skip ?_
        refine jn_end () ?_ ?_
        · exact trivial
        · intro A_ W_ hS
          replace hS := sl_set (d := vint .u64 0) 2 (vint .u64 (cSet (pSet s))) (by kernel_rfl) (eqD_int (by first | (rw [pSet_1 hc2]; done) | (rw [pSet_2 hc2 hc3]; exact shl_word _ hc3 (by have := sym_le ((s.getD 0 0).toNat : Int); omega)) | (rw [pSet_3 hc2 hc3]; rfl))) hS
          replace hS := sl_set (d := vstr ([] : List UInt8)) 4 (vstr (cRest (pSet s))) (by kernel_rfl) (eqD_str (by first | (rw [pSet_1 hc2]; done) | (rw [pSet_2 hc2 hc3]; rfl) | (rw [pSet_3 hc2 hc3]; rfl))) hS
          replace hS := sl_set (d := vbool false) 5 (vbool ((pSet s).isSome)) (by kernel_rfl) (eqD_bool (by first | (rw [pSet_1 hc2]; done) | (rw [pSet_2 hc2 hc3]; rfl) | (rw [pSet_3 hc2 hc3]; rfl))) hS
          exact sl_weak (vc := []) [] [2, 3, 4, 5] (by kernel_rfl) trivial hS
end Go.Proofs.Ytjnjmnfacaakfaa
namespace Go.Proofs.Ytjnjmnfacaakfaa
open Go.Eng
def endP : Place := { fEnd := true }
def parseM : Nat → List Place → List Int → List UInt8 → Option (List Place × List Int)
  | 0, _, _, _ => none
  | n + 1, ps, st, r => if r = [] ∨ ((r.getD 0 0).toNat : Int) = 124 then
      (if ((ps.length : Nat) : Int) = st.getD (((st.length : Nat) : Int) - 1).toNat 0 then none else
        if r = [] then some (ps ++ [endP], st) else parseM n (ps ++ [endP]) (st ++ [(((ps ++ [endP]).length : Nat) : Int)]) (r.drop 1))
    else if (pSet r).isSome = true then
      (if pMore (pSet r) = 43 then parseM n (ps ++ [({ fSet := cSet (pSet r) } : Place)] ++ [({ fSet := cSet (pSet r), fMore := 42 } : Place)]) st (pRest (pSet r))
        else parseM n (ps ++ [({ fSet := cSet (pSet r), fMore := pMore (pSet r) } : Place)]) st (pRest (pSet r)))
    else none
def parseS (s : List UInt8) : Option (List Place × List Int) := parseM (s.length + 1) [] [0] s
def plOf (x : Option (List Place × List Int)) : List Place := match x with
  | some y => y.1
  | none => []
def stOf (x : Option (List Place × List Int)) : List Int := match x with
  | some y => y.2
  | none => []
theorem cut2_le (s : List UInt8) (c : UInt8) : (cutB s c).2.1.length ≤ s.length := by
  unfold cutB
  split <;> simp
theorem class_le {s : List UInt8} : (cRest (classS s)).length ≤ s.length := by
  unfold classS
  split
  · simp [cRest]
  · cases classM (cutB s 93).1 with
    | none => simp [cRest]
    | some S => exact cut2_le s 93
theorem pSet_le {s : List UInt8} (h : 0 < s.length) : (cRest (pSet s)).length + 1 ≤ s.length := by
  unfold pSet
  split
  · have := class_le (s := s.drop 1)
    rw [List.length_drop] at this
    omega
  · split
    · simp [cRest]; omega
    · simp [cRest]; omega
theorem pRest_le {s : List UInt8} (h : 0 < s.length) : (pRest (pSet s)).length + 1 ≤ s.length := by
  have := pSet_le h
  unfold pRest
  split
  · rw [List.length_drop]; omega
  · exact this
theorem pRest_le2 {s : List UInt8} (h : 0 < s.length) (h1 : pMore (pSet s) = 43) : (pRest (pSet s)).length + 2 ≤ s.length := by
  have := pSet_le h
  unfold pMore at h1
  split at h1
  · rename_i hp
    have := List.length_pos_iff.2 hp.2.1
    unfold pRest
    rw [if_pos hp, List.length_drop]; omega
  · omega
theorem parseM_1 {k : Nat} {ps : List Place} {st : List Int} {r : List UInt8} (hk : 0 < k) (h : r = [] ∨ ((r.getD 0 0).toNat : Int) = 124) (h1 : ((ps.length : Nat) : Int) = st.getD (((st.length : Nat) : Int) - 1).toNat 0) : parseM k ps st r = none := by
  obtain ⟨k, rfl⟩ : ∃ j, k = j + 1 := ⟨k - 1, by omega⟩
  rw [parseM, if_pos h, if_pos h1]
theorem parseM_2 {k : Nat} {ps : List Place} {st : List Int} {r : List UInt8} (hk : 0 < k) (h : r = [] ∨ ((r.getD 0 0).toNat : Int) = 124) (h1 : ¬ ((ps.length : Nat) : Int) = st.getD (((st.length : Nat) : Int) - 1).toNat 0) (h2 : r = []) : parseM k ps st r = some (ps ++ [endP], st) := by
  obtain ⟨k, rfl⟩ : ∃ j, k = j + 1 := ⟨k - 1, by omega⟩
  rw [parseM, if_pos h, if_neg h1, if_pos h2]
theorem parseM_3 {k : Nat} {ps : List Place} {st : List Int} {r : List UInt8} (hk : 0 < k) (h : r = [] ∨ ((r.getD 0 0).toNat : Int) = 124) (h1 : ¬ ((ps.length : Nat) : Int) = st.getD (((st.length : Nat) : Int) - 1).toNat 0) (h2 : ¬ r = []) : parseM k ps st r = parseM (k - 1) (ps ++ [endP]) (st ++ [(((ps ++ [endP]).length : Nat) : Int)]) (r.drop 1) := by
  obtain ⟨k, rfl⟩ : ∃ j, k = j + 1 := ⟨k - 1, by omega⟩
  rw [parseM, if_pos h, if_neg h1, if_neg h2]; rfl
theorem parseM_4 {k : Nat} {ps : List Place} {st : List Int} {r : List UInt8} (hk : 0 < k) (h : ¬ (r = [] ∨ ((r.getD 0 0).toNat : Int) = 124)) (h1 : (pSet r).isSome = false) : parseM k ps st r = none := by
  obtain ⟨k, rfl⟩ : ∃ j, k = j + 1 := ⟨k - 1, by omega⟩
  rw [parseM, if_neg h, if_neg (by rw [h1]; simp)]
theorem parseM_5 {k : Nat} {ps : List Place} {st : List Int} {r : List UInt8} (hk : 0 < k) (h : ¬ (r = [] ∨ ((r.getD 0 0).toNat : Int) = 124)) (h1 : ¬ (pSet r).isSome = false) (h2 : pMore (pSet r) = 43) : parseM k ps st r = parseM (k - 1) (ps ++ [({ fSet := cSet (pSet r) } : Place)] ++ [({ fSet := cSet (pSet r), fMore := 42 } : Place)]) st (pRest (pSet r)) := by
  obtain ⟨k, rfl⟩ : ∃ j, k = j + 1 := ⟨k - 1, by omega⟩
  rw [parseM, if_neg h, if_pos (eq_true_of_ne_false h1), if_pos h2]; rfl
theorem parseM_6 {k : Nat} {ps : List Place} {st : List Int} {r : List UInt8} (hk : 0 < k) (h : ¬ (r = [] ∨ ((r.getD 0 0).toNat : Int) = 124)) (h1 : ¬ (pSet r).isSome = false) (h2 : ¬ pMore (pSet r) = 43) : parseM k ps st r = parseM (k - 1) (ps ++ [({ fSet := cSet (pSet r), fMore := pMore (pSet r) } : Place)]) st (pRest (pSet r)) := by
  obtain ⟨k, rfl⟩ : ∃ j, k = j + 1 := ⟨k - 1, by omega⟩
  rw [parseM, if_neg h, if_pos (eq_true_of_ne_false h1), if_neg h2]; rfl
theorem parse_ok (s : List UInt8) (hb0 : s.length ≤ 64) : Pure Try.prog 31 [.s s] (.tup [.p ((eL ePlace 3 dPlace) (plOf (parseS s))), .p ((eL eI 1 0) (stOf (parseS s))), vbool ((parseS s).isSome)]) := by
  refine pure_of (fn := Try.f31) Try.func31 rfl rfl fun F_ W0_ => ?_
  refine tr_seq ?_
  refine tr_r (vc := []) (E' := [(0, none, vstr s), (2, none, .p (.v (.slice none 0 0)))]) (H' := []) [] [] [0, 2] (by kernel_rfl) ?_ ?_
  · exact trivial
  refine tr_then ?_
  refine tr_seq ?_
  refine tr_r (vc := []) (E' := [(0, none, vstr s), (2, none, .p (.v (.slice none 0 0))), (3, none, .own 0)]) (H' := [.arr 3 1 1 (fun j => ([vint .i64 0] : List D).getD j default)]) [] [] [0, 2, 3] (by kernel_rfl) ?_ ?_
  · exact trivial
  refine nm_pre (E' := [(0, none, vstr s), (2, none, .p (.v (.slice none 0 0))), (3, none, .own 0)]) (H' := [oL 3 eI 1 0 ([0])]) (fun A_ W_ hS => sl_arr (n := 1) (n' := ([0]).length) (f := fun j => ([vint .i64 0] : List D).getD j default) 0 (fun i => .p (eI (([0]).getD i 0))) (by kernel_rfl) (rfl) (by exact lit_getD (e := eI) (d := 0) (l := [0])) hS) ?_
  refine tr_then ?_
  refine tr_seq ?_
  refine tr_r (vc := []) (E' := [(2, none, .p (.v (.slice none 0 0))), (3, none, .own 0), (5, none, vstr s)]) (H' := [oL 3 eI 1 0 ([0])]) [] [] [2, 3, 5] (by kernel_rfl) ?_ ?_
  · exact trivial
  refine tr_then ?_
  refine tr_block ?_
  refine tr_loop (α := Nat × (List Place) × (List Int) × (List UInt8)) (fun z : Nat × (List Place) × (List Int) × (List UInt8) => (fun (k : Nat) (ps : List Place) (st : List Int) (r : List UInt8) => [(2, none, .own 1), (3, none, .own 0), (5, none, vstr r)]) z.1 z.2.1 z.2.2.1 z.2.2.2) (fun z : Nat × (List Place) × (List Int) × (List UInt8) => (fun (k : Nat) (ps : List Place) (st : List Int) (r : List UInt8) => [oL 3 eI 1 0 st, oL 73 ePlace 3 dPlace ps]) z.1 z.2.1 z.2.2.1 z.2.2.2) (fun z : Nat × (List Place) × (List Int) × (List UInt8) => (fun (k : Nat) (ps : List Place) (st : List Int) (r : List UInt8) => (parseM k ps st r = parseS s) ∧ (r.length < k) ∧ (ps.length + r.length ≤ s.length) ∧ (0 < st.length) ∧ (st.length + r.length ≤ s.length + 1)) z.1 z.2.1 z.2.2.1 z.2.2.2) (fun z : Nat × (List Place) × (List Int) × (List UInt8) => (fun (k : Nat) (ps : List Place) (st : List Int) (r : List UInt8) => r.length) z.1 z.2.1 z.2.2.1 z.2.2.2) ((s.length + 1), ([] : List Place), [0], s) ?_ ?_ ?_
  · show (parseM (s.length + 1) ([] : List Place) ([0]) s = parseS s) ∧ (s.length < (s.length + 1)) ∧ (([] : List Place).length + s.length ≤ s.length) ∧ (0 < ([0]).length) ∧ (([0]).length + s.length ≤ s.length + 1)
    refine ⟨?_, ?_, ?_, ?_, ?_⟩
    · rfl
    · first | omega | (intro hg; simp at hg; omega) | (simp; done) | (simp_all; done) | (simp_all; omega) | grind
    · first | omega | (intro hg; simp at hg; omega) | (simp; done) | (simp_all; done) | (simp_all; omega) | grind
    · first | omega | (intro hg; simp at hg; omega) | (simp; done) | (simp_all; done) | (simp_all; omega) | grind
    · first | omega | (intro hg; simp at hg; omega) | (simp; done) | (simp_all; done) | (simp_all; omega) | grind
  · intro A_ W_ hS
    replace hS := sl_nil 2 73 3 (fun i => .p (ePlace (([] : List Place).getD i dPlace))) (by kernel_rfl) hS
    exact sl_weak (vc := [∀ i, i < ([0]).length → D.p (eI (([0]).getD i 0)) = .p (eI (([0]).getD i 0)), ∀ i, i < ([] : List Place).length → D.p (ePlace (([] : List Place).getD i dPlace)) = .p (ePlace (([] : List Place).getD i dPlace))]) [0, 1] [2, 3, 5] (by kernel_rfl) (al (fun _ _ => rfl) (al (fun _ _ => rfl) trivial)) hS
  · intro z hz
    obtain ⟨k, ps, st, r⟩ := z
    have hz : (parseM k ps st r = parseS s) ∧ (r.length < k) ∧ (ps.length + r.length ≤ s.length) ∧ (0 < st.length) ∧ (st.length + r.length ≤ s.length + 1) := hz
    obtain ⟨hi0_0, hi0_1, hi0_2, hi0_3, hi0_4⟩ := hz
    have hr := pRest_le (s := r)
    have hr2 := pRest_le2 (s := r)
    have hl : r = [] ∨ 0 < r.length := by cases r <;> simp
    refine tr_block ?_
    refine tr_seq ?_
    refine tr_r (vc := [(IntKind.wrap .i64 (((st.length : Nat) : Int) - 1)) = (((st.length : Nat) : Int) - 1), (0 : Int) ≤ (((st.length : Nat) : Int) - 1), (((st.length : Nat) : Int) - 1) < (st.length : Int), (((st.length : Nat) : Int) - 1).toNat < st.length]) (E' := [(2, none, .own 1), (3, none, .own 0), (5, none, vstr r), (6, none, vbool (((ps.length : Nat) : Int) == (st.getD ((((st.length : Nat) : Int) - 1).toNat) 0)))]) (H' := [oL 3 eI 1 0 st, oL 73 ePlace 3 dPlace ps]) [(5, vint .i64 (((st.length : Nat) : Int) - 1))] [] [2, 3, 5, 6] (by kernel_rfl) ?_ ?_
    · refine al ?_ (al ?_ (al ?_ (al ?_ (trivial))))
      · exact wr64 (by omega) (by omega) (by omega)
      · first | omega | (intro hg; simp at hg; omega) | (simp; done) | (simp_all; done) | (simp_all; omega) | grind
      · first | omega | (intro hg; simp at hg; omega) | (simp; done) | (simp_all; done) | (simp_all; omega) | grind
      · first | omega | (intro hg; simp at hg; omega) | (simp; done) | (simp_all; done) | (simp_all; omega) | grind
    refine tr_then ?_
    refine tr_seq ?_
    refine tr_seq ?_
    refine tr_r (vc := [(!(r == ([] : List UInt8))) = true → (!(r == ([] : List UInt8))) = true, (!(r == ([] : List UInt8))) = true → ((0 : Int) ≤ 0), (!(r == ([] : List UInt8))) = true → (0 < (r.length : Int)), (!(r == ([] : List UInt8))) = true → (!(r == ([] : List UInt8))) = true, (!(r == ([] : List UInt8))) = true → (!(r == ([] : List UInt8))) = true]) (E' := [(2, none, .own 1), (3, none, .own 0), (5, none, vstr r), (6, none, vbool (((ps.length : Nat) : Int) == (st.getD ((((st.length : Nat) : Int) - 1).toNat) 0))), (28, none, vbool ((r == ([] : List UInt8)) || (((r.getD 0 0).toNat : Int) == 124)))]) (H' := [oL 3 eI 1 0 st, oL 73 ePlace 3 dPlace ps]) [] [] [2, 3, 5, 6, 28] (by kernel_rfl) ?_ ?_
    · refine al ?_ (al ?_ (al ?_ (al ?_ (al ?_ (trivial)))))
      · exact id
      · first | omega | (intro hg; simp at hg; omega) | (simp; done) | (simp_all; done) | (simp_all; omega) | grind
      · intro hg; simp at hg; have := List.length_pos_iff.2 hg; omega
      · exact id
      · exact id
    refine tr_then ?_
    refine tr_condP ((r == ([] : List UInt8)) || (((r.getD 0 0).toNat : Int) == 124)) ((r = ([] : List UInt8)) ∨ (((r.getD 0 0).toNat : Int) = 124)) (by simp) (by kernel_rfl) (fun hc1 => ?_) (fun hc1 => ?_)
    · skip
      refine tr_seq ?_
      refine tr_seq ?_
      refine tr_r (vc := []) (E' := [(2, none, .own 1), (3, none, .own 0), (5, none, vstr r), (29, none, vbool (((ps.length : Nat) : Int) == (st.getD ((((st.length : Nat) : Int) - 1).toNat) 0)))]) (H' := [oL 3 eI 1 0 st, oL 73 ePlace 3 dPlace ps]) [] [] [2, 3, 5, 29] (by kernel_rfl) ?_ ?_
      · exact trivial
      refine tr_then ?_
      refine tr_condP (((ps.length : Nat) : Int) == (st.getD ((((st.length : Nat) : Int) - 1).toNat) 0)) (((ps.length : Nat) : Int) = (st.getD ((((st.length : Nat) : Int) - 1).toNat) 0)) (by simp) (by kernel_rfl) (fun hc2 => ?_) (fun hc2 => ?_)
      · skip
        refine tr_seq ?_
        refine tr_r (vc := []) (E' := [(2, none, .p (.v (.slice none 0 0))), (3, none, .p (.v (.slice none 0 0))), (4, none, vbool false)]) (H' := [oL 3 eI 1 0 st, oL 73 ePlace 3 dPlace ps]) [] [] [2, 3, 4] (by kernel_rfl) ?_ ?_
        · exact trivial
        refine tr_then ?_
        refine tr_pre (E' := [(2, none, .p (.v (.slice none 0 0))), (3, none, .p (.v (.slice none 0 0))), (4, none, vbool false)]) (H' := []) (fun A_ W_ hS => sl_weak (vc := []) [] [2, 3, 4] (by kernel_rfl) trivial hS) ?_
        refine tr_pre (E' := (2, none, .p ((eL ePlace 3 dPlace) (plOf (parseS s)))) :: [(2, none, .p (.v (.slice none 0 0))), (3, none, .p (.v (.slice none 0 0))), (4, none, vbool false)]) (H' := []) (fun A_ W_ hS => sl_set_imp (d := .p (.v (.slice none 0 0))) 2 (.p ((eL ePlace 3 dPlace) (plOf (parseS s)))) (by kernel_rfl) ?_ hS) ?_
        · refine imp_nil (plOf (parseS s)) ?_
          rw [← hi0_0]; first | (rw [parseM_1 (by omega) hc1 hc2]; rfl) | (rw [parseM_2 (by omega) hc1 hc2 hc3]; rfl) | (rw [parseM_4 (by omega) hc1 hc4]; rfl)
        refine tr_pre (E' := [(2, none, .p ((eL ePlace 3 dPlace) (plOf (parseS s)))), (3, none, .p (.v (.slice none 0 0))), (4, none, vbool false)]) (H' := []) (fun A_ W_ hS => sl_proj (ts := [2, 3, 4]) (by kernel_rfl) hS) ?_
        refine tr_pre (E' := (3, none, .p ((eL eI 1 0) (stOf (parseS s)))) :: [(2, none, .p ((eL ePlace 3 dPlace) (plOf (parseS s)))), (3, none, .p (.v (.slice none 0 0))), (4, none, vbool false)]) (H' := []) (fun A_ W_ hS => sl_set_imp (d := .p (.v (.slice none 0 0))) 3 (.p ((eL eI 1 0) (stOf (parseS s)))) (by kernel_rfl) ?_ hS) ?_
        · refine imp_nil (stOf (parseS s)) ?_
          rw [← hi0_0]; first | (rw [parseM_1 (by omega) hc1 hc2]; rfl) | (rw [parseM_2 (by omega) hc1 hc2 hc3]; rfl) | (rw [parseM_4 (by omega) hc1 hc4]; rfl)
        refine tr_pre (E' := [(2, none, .p ((eL ePlace 3 dPlace) (plOf (parseS s)))), (3, none, .p ((eL eI 1 0) (stOf (parseS s)))), (4, none, vbool false)]) (H' := []) (fun A_ W_ hS => sl_proj (ts := [2, 3, 4]) (by kernel_rfl) hS) ?_
        refine tr_pre (E' := (4, none, vbool ((parseS s).isSome)) :: [(2, none, .p ((eL ePlace 3 dPlace) (plOf (parseS s)))), (3, none, .p ((eL eI 1 0) (stOf (parseS s)))), (4, none, vbool false)]) (H' := []) (fun A_ W_ hS => sl_set_imp (d := vbool false) 4 (vbool ((parseS s).isSome)) (by kernel_rfl) ?_ hS) ?_
        · refine imp_eq (congrArg (fun x => D.p (eB x)) (a₁ := false) (a₂ := ((parseS s).isSome)) ?_)
          rw [← hi0_0]; first | (rw [parseM_1 (by omega) hc1 hc2]; rfl) | (rw [parseM_2 (by omega) hc1 hc2 hc3]; rfl) | (rw [parseM_4 (by omega) hc1 hc4]; rfl)
        refine tr_pre (E' := [(2, none, .p ((eL ePlace 3 dPlace) (plOf (parseS s)))), (3, none, .p ((eL eI 1 0) (stOf (parseS s)))), (4, none, vbool ((parseS s).isSome))]) (H' := []) (fun A_ W_ hS => sl_proj (ts := [2, 3, 4]) (by kernel_rfl) hS) ?_
        exact tr_return' (vc := []) (ds := [.p ((eL ePlace 3 dPlace) (plOf (parseS s))), .p ((eL eI 1 0) (stOf (parseS s))), vbool ((parseS s).isSome)]) (by kernel_rfl) trivial (by kernel_rfl) (fun _ _ h => h)
      · skip
        refine tr_skip ?_
        refine tr_then ?_
        refine tr_seq ?_
        refine tr_r (vc := [∀ j, j < 1 → ([.agg [.v (.int .u64 0), .v (.int .u8 0), .v (.bool true)]] : List PV).getD j default = (fun i => ePlace (([({ fSet := 0, fMore := 0, fEnd := true } : Place)]).getD i dPlace)) j, (ps.length + (([({ fSet := 0, fMore := 0, fEnd := true } : Place)]).length)) * 16 ≤ 140737488355328]) (E' := [(2, none, .own 2), (3, none, .own 0), (5, none, vstr r)]) (H' := [oL 3 eI 1 0 st, .dead, .arr 73 3 (ps.length + ([({ fSet := 0, fMore := 0, fEnd := true } : Place)]).length) (appF (fun i => .p (ePlace (ps.getD i dPlace))) ps.length (fun j => .p (ePlace (([({ fSet := 0, fMore := 0, fEnd := true } : Place)]).getD j dPlace))))]) [] [(2, .p ((eL ePlace 3 dPlace) ([({ fSet := 0, fMore := 0, fEnd := true } : Place)])))] [2, 3, 5] (by kernel_rfl) ?_ ?_
        · refine al ?_ (al ?_ (trivial))
          · exact lit_pv (e := ePlace) (d := dPlace) (l := [({ fSet := 0, fMore := 0, fEnd := true } : Place)])
          · first | omega | (intro hg; simp at hg; omega) | (simp; done) | (simp_all; done) | (simp_all; omega) | grind
        refine nm_pre (E' := [(2, none, .own 2), (3, none, .own 0), (5, none, vstr r)]) (H' := [oL 3 eI 1 0 st, .dead, oL 73 ePlace 3 dPlace (ps ++ ([({ fSet := 0, fMore := 0, fEnd := true } : Place)]))]) (fun A_ W_ hS => sl_arr (n := (ps.length + ([({ fSet := 0, fMore := 0, fEnd := true } : Place)]).length)) (n' := (ps ++ ([({ fSet := 0, fMore := 0, fEnd := true } : Place)])).length) (f := appF (fun i => .p (ePlace (ps.getD i dPlace))) ps.length (fun j => .p (ePlace (([({ fSet := 0, fMore := 0, fEnd := true } : Place)]).getD j dPlace)))) 2 (fun i => .p (ePlace ((ps ++ ([({ fSet := 0, fMore := 0, fEnd := true } : Place)])).getD i dPlace))) (by kernel_rfl) (by simp) (by first | exact appN | exact nilN | exact app0 | exact nilV _) hS) ?_
        refine tr_then ?_
        refine tr_seq ?_
        refine tr_seq ?_
        refine tr_r (vc := []) (E' := [(2, none, .own 2), (3, none, .own 0), (5, none, vstr r), (35, none, vbool (r == ([] : List UInt8)))]) (H' := [oL 3 eI 1 0 st, .dead, oL 73 ePlace 3 dPlace (ps ++ ([({ fSet := 0, fMore := 0, fEnd := true } : Place)]))]) [] [] [2, 3, 5, 35] (by kernel_rfl) ?_ ?_
        · exact trivial
        refine tr_then ?_
        refine tr_condP (r == ([] : List UInt8)) (r = ([] : List UInt8)) (by simp) (by kernel_rfl) (fun hc3 => ?_) (fun hc3 => ?_)
        · skip
          refine tr_seq ?_
          refine tr_r (vc := []) (E' := [(2, none, .own 2), (3, none, .own 0), (4, none, vbool true)]) (H' := [oL 3 eI 1 0 st, .dead, oL 73 ePlace 3 dPlace (ps ++ ([({ fSet := 0, fMore := 0, fEnd := true } : Place)]))]) [] [] [2, 3, 4] (by kernel_rfl) ?_ ?_
          · exact trivial
          refine tr_then ?_
          refine tr_pre (E' := [(2, none, .own 1), (3, none, .own 0), (4, none, vbool true)]) (H' := [oL 3 eI 1 0 st, oL 73 ePlace 3 dPlace (ps ++ ([({ fSet := 0, fMore := 0, fEnd := true } : Place)]))]) (fun A_ W_ hS => sl_weak (vc := [∀ i, i < st.length → D.p (eI (st.getD i 0)) = .p (eI (st.getD i 0)), ∀ i, i < (ps ++ ([({ fSet := 0, fMore := 0, fEnd := true } : Place)])).length → D.p (ePlace ((ps ++ ([({ fSet := 0, fMore := 0, fEnd := true } : Place)])).getD i dPlace)) = .p (ePlace ((ps ++ ([({ fSet := 0, fMore := 0, fEnd := true } : Place)])).getD i dPlace))]) [0, 2] [2, 3, 4] (by kernel_rfl) (al (fun _ _ => rfl) (al (fun _ _ => rfl) trivial)) hS) ?_
          refine tr_pre (E' := [(2, none, .own 1), (3, none, .p ((eL eI 1 0) st)), (4, none, vbool true)]) (H' := [.dead, oL 73 ePlace 3 dPlace (ps ++ ([({ fSet := 0, fMore := 0, fEnd := true } : Place)]))]) (fun A_ W_ hS => sl_freeze (vc := [∀ j, j < st.length → D.p (eI (st.getD j 0)) = .p ((fun j => eI (st.getD j 0)) j), ∀ i, i < (ps ++ ([({ fSet := 0, fMore := 0, fEnd := true } : Place)])).length → D.p (ePlace ((ps ++ ([({ fSet := 0, fMore := 0, fEnd := true } : Place)])).getD i dPlace)) = .p (ePlace ((ps ++ ([({ fSet := 0, fMore := 0, fEnd := true } : Place)])).getD i dPlace))]) 0 (fun j => eI (st.getD j 0)) (by kernel_rfl) (al (fun _ _ => rfl) (al (fun _ _ => rfl) trivial)) hS) ?_
          refine tr_pre (E' := [(2, none, .p ((eL ePlace 3 dPlace) (ps ++ ([({ fSet := 0, fMore := 0, fEnd := true } : Place)])))), (3, none, .p ((eL eI 1 0) st)), (4, none, vbool true)]) (H' := [.dead, .dead]) (fun A_ W_ hS => sl_freeze (vc := [∀ j, j < (ps ++ ([({ fSet := 0, fMore := 0, fEnd := true } : Place)])).length → D.p (ePlace ((ps ++ ([({ fSet := 0, fMore := 0, fEnd := true } : Place)])).getD j dPlace)) = .p ((fun j => ePlace ((ps ++ ([({ fSet := 0, fMore := 0, fEnd := true } : Place)])).getD j dPlace)) j)]) 1 (fun j => ePlace ((ps ++ ([({ fSet := 0, fMore := 0, fEnd := true } : Place)])).getD j dPlace)) (by kernel_rfl) (al (fun _ _ => rfl) trivial) hS) ?_
          refine tr_pre (E' := (2, none, .p ((eL ePlace 3 dPlace) (plOf (parseS s)))) :: [(2, none, .p ((eL ePlace 3 dPlace) (ps ++ ([({ fSet := 0, fMore := 0, fEnd := true } : Place)])))), (3, none, .p ((eL eI 1 0) st)), (4, none, vbool true)]) (H' := [.dead, .dead]) (fun A_ W_ hS => sl_set_imp (d := .p ((eL ePlace 3 dPlace) (ps ++ ([({ fSet := 0, fMore := 0, fEnd := true } : Place)])))) 2 (.p ((eL ePlace 3 dPlace) (plOf (parseS s)))) (by kernel_rfl) ?_ hS) ?_
          · refine imp_eq (congrArg (fun x => D.p ((eL ePlace 3 dPlace) x)) (a₁ := (ps ++ ([({ fSet := 0, fMore := 0, fEnd := true } : Place)]))) (a₂ := (plOf (parseS s))) ?_)
            rw [← hi0_0]; first | (rw [parseM_1 (by omega) hc1 hc2]; rfl) | (rw [parseM_2 (by omega) hc1 hc2 hc3]; rfl) | (rw [parseM_4 (by omega) hc1 hc4]; rfl)
          refine tr_pre (E' := [(2, none, .p ((eL ePlace 3 dPlace) (plOf (parseS s)))), (3, none, .p ((eL eI 1 0) st)), (4, none, vbool true)]) (H' := [.dead, .dead]) (fun A_ W_ hS => sl_proj (ts := [2, 3, 4]) (by kernel_rfl) hS) ?_
          refine tr_pre (E' := (3, none, .p ((eL eI 1 0) (stOf (parseS s)))) :: [(2, none, .p ((eL ePlace 3 dPlace) (plOf (parseS s)))), (3, none, .p ((eL eI 1 0) st)), (4, none, vbool true)]) (H' := [.dead, .dead]) (fun A_ W_ hS => sl_set_imp (d := .p ((eL eI 1 0) st)) 3 (.p ((eL eI 1 0) (stOf (parseS s)))) (by kernel_rfl) ?_ hS) ?_
          · refine imp_eq (congrArg (fun x => D.p ((eL eI 1 0) x)) (a₁ := st) (a₂ := (stOf (parseS s))) ?_)
            rw [← hi0_0]; first | (rw [parseM_1 (by omega) hc1 hc2]; rfl) | (rw [parseM_2 (by omega) hc1 hc2 hc3]; rfl) | (rw [parseM_4 (by omega) hc1 hc4]; rfl)
          refine tr_pre (E' := [(2, none, .p ((eL ePlace 3 dPlace) (plOf (parseS s)))), (3, none, .p ((eL eI 1 0) (stOf (parseS s)))), (4, none, vbool true)]) (H' := [.dead, .dead]) (fun A_ W_ hS => sl_proj (ts := [2, 3, 4]) (by kernel_rfl) hS) ?_
          refine tr_pre (E' := (4, none, vbool ((parseS s).isSome)) :: [(2, none, .p ((eL ePlace 3 dPlace) (plOf (parseS s)))), (3, none, .p ((eL eI 1 0) (stOf (parseS s)))), (4, none, vbool true)]) (H' := [.dead, .dead]) (fun A_ W_ hS => sl_set_imp (d := vbool true) 4 (vbool ((parseS s).isSome)) (by kernel_rfl) ?_ hS) ?_
          · refine imp_eq (congrArg (fun x => D.p (eB x)) (a₁ := true) (a₂ := ((parseS s).isSome)) ?_)
            rw [← hi0_0]; first | (rw [parseM_1 (by omega) hc1 hc2]; rfl) | (rw [parseM_2 (by omega) hc1 hc2 hc3]; rfl) | (rw [parseM_4 (by omega) hc1 hc4]; rfl)
          refine tr_pre (E' := [(2, none, .p ((eL ePlace 3 dPlace) (plOf (parseS s)))), (3, none, .p ((eL eI 1 0) (stOf (parseS s)))), (4, none, vbool ((parseS s).isSome))]) (H' := [.dead, .dead]) (fun A_ W_ hS => sl_proj (ts := [2, 3, 4]) (by kernel_rfl) hS) ?_
          exact tr_return' (vc := []) (ds := [.p ((eL ePlace 3 dPlace) (plOf (parseS s))), .p ((eL eI 1 0) (stOf (parseS s))), vbool ((parseS s).isSome)]) (by kernel_rfl) trivial (by kernel_rfl) (fun _ _ h => h)
        · skip
          refine tr_skip ?_
          refine tr_then ?_
          refine tr_seq ?_
          refine tr_r (vc := [∀ j, j < 1 → ([.v (.int .i64 (((ps ++ ([({ fSet := 0, fMore := 0, fEnd := true } : Place)])).length : Nat) : Int))] : List PV).getD j default = (fun i => eI (([(((ps ++ ([({ fSet := 0, fMore := 0, fEnd := true } : Place)])).length : Nat) : Int)]).getD i 0)) j, (st.length + (([(((ps ++ ([({ fSet := 0, fMore := 0, fEnd := true } : Place)])).length : Nat) : Int)]).length)) * 8 ≤ 140737488355328]) (E' := [(2, none, .own 2), (3, none, .own 3), (5, none, vstr r)]) (H' := [.dead, .dead, oL 73 ePlace 3 dPlace (ps ++ ([({ fSet := 0, fMore := 0, fEnd := true } : Place)])), .arr 3 1 (st.length + ([(((ps ++ ([({ fSet := 0, fMore := 0, fEnd := true } : Place)])).length : Nat) : Int)]).length) (appF (fun i => .p (eI (st.getD i 0))) st.length (fun j => .p (eI (([(((ps ++ ([({ fSet := 0, fMore := 0, fEnd := true } : Place)])).length : Nat) : Int)]).getD j 0))))]) [] [(3, .p ((eL eI 1 0) ([(((ps ++ ([({ fSet := 0, fMore := 0, fEnd := true } : Place)])).length : Nat) : Int)])))] [2, 3, 5] (by kernel_rfl) ?_ ?_
          · refine al ?_ (al ?_ (trivial))
            · exact lit_pv (e := eI) (d := 0) (l := [(((ps ++ ([({ fSet := 0, fMore := 0, fEnd := true } : Place)])).length : Nat) : Int)])
            · first | omega | (intro hg; simp at hg; omega) | (simp; done) | (simp_all; done) | (simp_all; omega) | grind
          refine nm_pre (E' := [(2, none, .own 2), (3, none, .own 3), (5, none, vstr r)]) (H' := [.dead, .dead, oL 73 ePlace 3 dPlace (ps ++ ([({ fSet := 0, fMore := 0, fEnd := true } : Place)])), oL 3 eI 1 0 (st ++ ([(((ps ++ ([({ fSet := 0, fMore := 0, fEnd := true } : Place)])).length : Nat) : Int)]))]) (fun A_ W_ hS => sl_arr (n := (st.length + ([(((ps ++ ([({ fSet := 0, fMore := 0, fEnd := true } : Place)])).length : Nat) : Int)]).length)) (n' := (st ++ ([(((ps ++ ([({ fSet := 0, fMore := 0, fEnd := true } : Place)])).length : Nat) : Int)])).length) (f := appF (fun i => .p (eI (st.getD i 0))) st.length (fun j => .p (eI (([(((ps ++ ([({ fSet := 0, fMore := 0, fEnd := true } : Place)])).length : Nat) : Int)]).getD j 0)))) 3 (fun i => .p (eI ((st ++ ([(((ps ++ ([({ fSet := 0, fMore := 0, fEnd := true } : Place)])).length : Nat) : Int)])).getD i 0))) (by kernel_rfl) (by simp) (by first | exact appN | exact nilN | exact app0 | exact nilV _) hS) ?_
          refine tr_then ?_
          refine tr_seq ?_
          refine tr_r (vc := [(0 : Int) ≤ 1, 1 ≤ (r.length : Int), (r.length : Int) ≤ (r.length : Int), ((r.drop 1).take (r.length - 1)) = (r.drop 1)]) (E' := [(2, none, .own 2), (3, none, .own 3), (5, none, vstr (r.drop 1))]) (H' := [.dead, .dead, oL 73 ePlace 3 dPlace (ps ++ ([({ fSet := 0, fMore := 0, fEnd := true } : Place)])), oL 3 eI 1 0 (st ++ ([(((ps ++ ([({ fSet := 0, fMore := 0, fEnd := true } : Place)])).length : Nat) : Int)]))]) [(1, vstr (r.drop 1))] [] [2, 3, 5] (by kernel_rfl) ?_ ?_
          · refine al ?_ (al ?_ (al ?_ (al ?_ (trivial))))
            · first | omega | (intro hg; simp at hg; omega) | (simp; done) | (simp_all; done) | (simp_all; omega) | grind
            · have := List.length_pos_iff.2 hc3; omega
            · first | omega | (intro hg; simp at hg; omega) | (simp; done) | (simp_all; done) | (simp_all; omega) | grind
            · exact cut_drop_str
          refine tr_then ?_
          refine tr_exit ?_
          refine th_e ?_
          refine in_hit ?_
          refine lp_end ((k - 1), (ps ++ ([({ fSet := 0, fMore := 0, fEnd := true } : Place)])), (st ++ ([(((ps ++ ([({ fSet := 0, fMore := 0, fEnd := true } : Place)])).length : Nat) : Int)])), (r.drop 1)) ?_ ?_ ?_
          · show (parseM (k - 1) (ps ++ ([({ fSet := 0, fMore := 0, fEnd := true } : Place)])) (st ++ ([(((ps ++ ([({ fSet := 0, fMore := 0, fEnd := true } : Place)])).length : Nat) : Int)])) (r.drop 1) = parseS s) ∧ ((r.drop 1).length < (k - 1)) ∧ ((ps ++ ([({ fSet := 0, fMore := 0, fEnd := true } : Place)])).length + (r.drop 1).length ≤ s.length) ∧ (0 < (st ++ ([(((ps ++ ([({ fSet := 0, fMore := 0, fEnd := true } : Place)])).length : Nat) : Int)])).length) ∧ ((st ++ ([(((ps ++ ([({ fSet := 0, fMore := 0, fEnd := true } : Place)])).length : Nat) : Int)])).length + (r.drop 1).length ≤ s.length + 1)
            refine ⟨?_, ?_, ?_, ?_, ?_⟩
            · rw [← hi0_0]; first | exact (parseM_3 (by omega) hc1 hc2 hc3).symm | exact (parseM_5 (by omega) hc1 hc4 hc5).symm | exact (parseM_6 (by omega) hc1 hc4 hc5).symm
            · have hp : 0 < r.length := List.length_pos_iff.2 (by first | exact hc3 | exact fun h => hc1 (.inl h)); have h1 := hr hp; (try have h43 := hr2 hp hc5); (try simp only [List.length_append, List.length_drop, List.length_cons, List.length_nil]); omega
            · have hp : 0 < r.length := List.length_pos_iff.2 (by first | exact hc3 | exact fun h => hc1 (.inl h)); have h1 := hr hp; (try have h43 := hr2 hp hc5); (try simp only [List.length_append, List.length_drop, List.length_cons, List.length_nil]); omega
            · have hp : 0 < r.length := List.length_pos_iff.2 (by first | exact hc3 | exact fun h => hc1 (.inl h)); have h1 := hr hp; (try have h43 := hr2 hp hc5); (try simp only [List.length_append, List.length_drop, List.length_cons, List.length_nil]); omega
            · have hp : 0 < r.length := List.length_pos_iff.2 (by first | exact hc3 | exact fun h => hc1 (.inl h)); have h1 := hr hp; (try have h43 := hr2 hp hc5); (try simp only [List.length_append, List.length_drop, List.length_cons, List.length_nil]); omega
          · show (r.drop 1).length < r.length
            have hp : 0 < r.length := List.length_pos_iff.2 (by first | exact hc3 | exact fun h => hc1 (.inl h)); have h1 := hr hp; (try have h43 := hr2 hp hc5); (try simp only [List.length_append, List.length_drop, List.length_cons, List.length_nil]); omega
          · intro A_ W_ hS
            exact sl_weak (vc := [∀ i, i < (st ++ ([(((ps ++ ([({ fSet := 0, fMore := 0, fEnd := true } : Place)])).length : Nat) : Int)])).length → D.p (eI ((st ++ ([(((ps ++ ([({ fSet := 0, fMore := 0, fEnd := true } : Place)])).length : Nat) : Int)])).getD i 0)) = .p (eI ((st ++ ([(((ps ++ ([({ fSet := 0, fMore := 0, fEnd := true } : Place)])).length : Nat) : Int)])).getD i 0)), ∀ i, i < (ps ++ ([({ fSet := 0, fMore := 0, fEnd := true } : Place)])).length → D.p (ePlace ((ps ++ ([({ fSet := 0, fMore := 0, fEnd := true } : Place)])).getD i dPlace)) = .p (ePlace ((ps ++ ([({ fSet := 0, fMore := 0, fEnd := true } : Place)])).getD i dPlace))]) [3, 2] [2, 3, 5] (by kernel_rfl) (al (fun _ _ => rfl) (al (fun _ _ => rfl) trivial)) hS
    · skip
      refine tr_skip ?_
      refine tr_then ?_
      refine tr_seq ?_
      refine tr_r (vc := [Pure Try.prog 47 [.s r] (.tup [vint .u64 (cSet (pSet r)), vint .u8 (pMore (pSet r)), vstr (pRest (pSet r)), vbool ((pSet r).isSome)])]) (E' := [(2, none, .own 1), (3, none, .own 0), (7, none, vint .u64 (cSet (pSet r))), (8, none, vint .u8 (pMore (pSet r))), (9, none, vstr (pRest (pSet r))), (10, none, vbool ((pSet r).isSome))]) (H' := [oL 3 eI 1 0 st, oL 73 ePlace 3 dPlace ps]) [] [(1, .tup [vint .u64 (cSet (pSet r)), vint .u8 (pMore (pSet r)), vstr (pRest (pSet r)), vbool ((pSet r).isSome)])] [2, 3, 7, 8, 9, 10] (by kernel_rfl) ?_ ?_
      · refine al ?_ (trivial)
        · exact piece_ok _ (by first | omega | first | omega | (intro hg; simp at hg; omega) | (simp; done) | (simp_all; done) | (simp_all; omega) | grind) (by first | omega | first | omega | (intro hg; simp at hg; omega) | (simp; done) | (simp_all; done) | (simp_all; omega) | grind)
      refine tr_then ?_
      refine tr_seq ?_
      refine tr_seq ?_
      refine tr_r (vc := []) (E' := [(2, none, .own 1), (3, none, .own 0), (7, none, vint .u64 (cSet (pSet r))), (8, none, vint .u8 (pMore (pSet r))), (9, none, vstr (pRest (pSet r))), (53, none, vbool (!((pSet r).isSome)))]) (H' := [oL 3 eI 1 0 st, oL 73 ePlace 3 dPlace ps]) [] [] [2, 3, 7, 8, 9, 53] (by kernel_rfl) ?_ ?_
      · exact trivial
      refine tr_then ?_
      refine tr_condP (!((pSet r).isSome)) (((pSet r).isSome) = false) (by simp) (by kernel_rfl) (fun hc4 => ?_) (fun hc4 => ?_)
      · skip
        refine tr_seq ?_
        refine tr_r (vc := []) (E' := [(2, none, .p (.v (.slice none 0 0))), (3, none, .p (.v (.slice none 0 0))), (4, none, vbool false)]) (H' := [oL 3 eI 1 0 st, oL 73 ePlace 3 dPlace ps]) [] [] [2, 3, 4] (by kernel_rfl) ?_ ?_
        · exact trivial
        refine tr_then ?_
        refine tr_pre (E' := [(2, none, .p (.v (.slice none 0 0))), (3, none, .p (.v (.slice none 0 0))), (4, none, vbool false)]) (H' := []) (fun A_ W_ hS => sl_weak (vc := []) [] [2, 3, 4] (by kernel_rfl) trivial hS) ?_
        refine tr_pre (E' := (2, none, .p ((eL ePlace 3 dPlace) (plOf (parseS s)))) :: [(2, none, .p (.v (.slice none 0 0))), (3, none, .p (.v (.slice none 0 0))), (4, none, vbool false)]) (H' := []) (fun A_ W_ hS => sl_set_imp (d := .p (.v (.slice none 0 0))) 2 (.p ((eL ePlace 3 dPlace) (plOf (parseS s)))) (by kernel_rfl) ?_ hS) ?_
        · refine imp_nil (plOf (parseS s)) ?_
          rw [← hi0_0]; first | (rw [parseM_1 (by omega) hc1 hc2]; rfl) | (rw [parseM_2 (by omega) hc1 hc2 hc3]; rfl) | (rw [parseM_4 (by omega) hc1 hc4]; rfl)
        refine tr_pre (E' := [(2, none, .p ((eL ePlace 3 dPlace) (plOf (parseS s)))), (3, none, .p (.v (.slice none 0 0))), (4, none, vbool false)]) (H' := []) (fun A_ W_ hS => sl_proj (ts := [2, 3, 4]) (by kernel_rfl) hS) ?_
        refine tr_pre (E' := (3, none, .p ((eL eI 1 0) (stOf (parseS s)))) :: [(2, none, .p ((eL ePlace 3 dPlace) (plOf (parseS s)))), (3, none, .p (.v (.slice none 0 0))), (4, none, vbool false)]) (H' := []) (fun A_ W_ hS => sl_set_imp (d := .p (.v (.slice none 0 0))) 3 (.p ((eL eI 1 0) (stOf (parseS s)))) (by kernel_rfl) ?_ hS) ?_
        · refine imp_nil (stOf (parseS s)) ?_
          rw [← hi0_0]; first | (rw [parseM_1 (by omega) hc1 hc2]; rfl) | (rw [parseM_2 (by omega) hc1 hc2 hc3]; rfl) | (rw [parseM_4 (by omega) hc1 hc4]; rfl)
        refine tr_pre (E' := [(2, none, .p ((eL ePlace 3 dPlace) (plOf (parseS s)))), (3, none, .p ((eL eI 1 0) (stOf (parseS s)))), (4, none, vbool false)]) (H' := []) (fun A_ W_ hS => sl_proj (ts := [2, 3, 4]) (by kernel_rfl) hS) ?_
        refine tr_pre (E' := (4, none, vbool ((parseS s).isSome)) :: [(2, none, .p ((eL ePlace 3 dPlace) (plOf (parseS s)))), (3, none, .p ((eL eI 1 0) (stOf (parseS s)))), (4, none, vbool false)]) (H' := []) (fun A_ W_ hS => sl_set_imp (d := vbool false) 4 (vbool ((parseS s).isSome)) (by kernel_rfl) ?_ hS) ?_
        · refine imp_eq (congrArg (fun x => D.p (eB x)) (a₁ := false) (a₂ := ((parseS s).isSome)) ?_)
          rw [← hi0_0]; first | (rw [parseM_1 (by omega) hc1 hc2]; rfl) | (rw [parseM_2 (by omega) hc1 hc2 hc3]; rfl) | (rw [parseM_4 (by omega) hc1 hc4]; rfl)
        refine tr_pre (E' := [(2, none, .p ((eL ePlace 3 dPlace) (plOf (parseS s)))), (3, none, .p ((eL eI 1 0) (stOf (parseS s)))), (4, none, vbool ((parseS s).isSome))]) (H' := []) (fun A_ W_ hS => sl_proj (ts := [2, 3, 4]) (by kernel_rfl) hS) ?_
        exact tr_return' (vc := []) (ds := [.p ((eL ePlace 3 dPlace) (plOf (parseS s))), .p ((eL eI 1 0) (stOf (parseS s))), vbool ((parseS s).isSome)]) (by kernel_rfl) trivial (by kernel_rfl) (fun _ _ h => h)
      · skip
        refine tr_skip ?_
        refine tr_then ?_
        refine tr_seq ?_
        refine tr_r (vc := []) (E' := [(2, none, .own 1), (3, none, .own 0), (5, none, vstr (pRest (pSet r))), (7, none, vint .u64 (cSet (pSet r))), (8, none, vint .u8 (pMore (pSet r)))]) (H' := [oL 3 eI 1 0 st, oL 73 ePlace 3 dPlace ps]) [] [] [2, 3, 5, 7, 8] (by kernel_rfl) ?_ ?_
        · exact trivial
        refine tr_then ?_
        refine tr_seq ?_
        refine tr_seq ?_
        refine tr_r (vc := []) (E' := [(2, none, .own 1), (3, none, .own 0), (5, none, vstr (pRest (pSet r))), (7, none, vint .u64 (cSet (pSet r))), (8, none, vint .u8 (pMore (pSet r))), (56, none, vbool ((pMore (pSet r)) == 43))]) (H' := [oL 3 eI 1 0 st, oL 73 ePlace 3 dPlace ps]) [] [] [2, 3, 5, 7, 8, 56] (by kernel_rfl) ?_ ?_
        · exact trivial
        refine tr_then ?_
        refine tr_condP ((pMore (pSet r)) == 43) ((pMore (pSet r)) = 43) (by simp) (by kernel_rfl) (fun hc5 => ?_) (fun hc5 => ?_)
        · skip
          refine tr_seq ?_
          refine tr_r (vc := [∀ j, j < 1 → ([.agg [.v (.int .u64 (cSet (pSet r))), .v (.int .u8 0), .v (.bool false)]] : List PV).getD j default = (fun i => ePlace (([({ fSet := (cSet (pSet r)), fMore := 0, fEnd := false } : Place)]).getD i dPlace)) j, (ps.length + (([({ fSet := (cSet (pSet r)), fMore := 0, fEnd := false } : Place)]).length)) * 16 ≤ 140737488355328]) (E' := [(2, none, .own 2), (3, none, .own 0), (5, none, vstr (pRest (pSet r))), (7, none, vint .u64 (cSet (pSet r)))]) (H' := [oL 3 eI 1 0 st, .dead, .arr 73 3 (ps.length + ([({ fSet := (cSet (pSet r)), fMore := 0, fEnd := false } : Place)]).length) (appF (fun i => .p (ePlace (ps.getD i dPlace))) ps.length (fun j => .p (ePlace (([({ fSet := (cSet (pSet r)), fMore := 0, fEnd := false } : Place)]).getD j dPlace))))]) [] [(3, .p ((eL ePlace 3 dPlace) ([({ fSet := (cSet (pSet r)), fMore := 0, fEnd := false } : Place)])))] [2, 3, 5, 7] (by kernel_rfl) ?_ ?_
          · refine al ?_ (al ?_ (trivial))
            · exact lit_pv (e := ePlace) (d := dPlace) (l := [({ fSet := (cSet (pSet r)), fMore := 0, fEnd := false } : Place)])
            · first | omega | (intro hg; simp at hg; omega) | (simp; done) | (simp_all; done) | (simp_all; omega) | grind
          refine nm_pre (E' := [(2, none, .own 2), (3, none, .own 0), (5, none, vstr (pRest (pSet r))), (7, none, vint .u64 (cSet (pSet r)))]) (H' := [oL 3 eI 1 0 st, .dead, oL 73 ePlace 3 dPlace (ps ++ ([({ fSet := (cSet (pSet r)), fMore := 0, fEnd := false } : Place)]))]) (fun A_ W_ hS => sl_arr (n := (ps.length + ([({ fSet := (cSet (pSet r)), fMore := 0, fEnd := false } : Place)]).length)) (n' := (ps ++ ([({ fSet := (cSet (pSet r)), fMore := 0, fEnd := false } : Place)])).length) (f := appF (fun i => .p (ePlace (ps.getD i dPlace))) ps.length (fun j => .p (ePlace (([({ fSet := (cSet (pSet r)), fMore := 0, fEnd := false } : Place)]).getD j dPlace)))) 2 (fun i => .p (ePlace ((ps ++ ([({ fSet := (cSet (pSet r)), fMore := 0, fEnd := false } : Place)])).getD i dPlace))) (by kernel_rfl) (by simp) (by first | exact appN | exact nilN | exact app0 | exact nilV _) hS) ?_
          refine tr_then ?_
          refine tr_r (vc := []) (E' := [(2, none, .own 2), (3, none, .own 0), (5, none, vstr (pRest (pSet r))), (7, none, vint .u64 (cSet (pSet r))), (8, none, vint .u8 42)]) (H' := [oL 3 eI 1 0 st, .dead, oL 73 ePlace 3 dPlace (ps ++ ([({ fSet := (cSet (pSet r)), fMore := 0, fEnd := false } : Place)]))]) [] [] [2, 3, 5, 7, 8] (by kernel_rfl) ?_ ?_
          · exact trivial
          refine tr_then ?_
          refine tr_r (vc := [∀ j, j < 1 → ([.agg [.v (.int .u64 (cSet (pSet r))), .v (.int .u8 42), .v (.bool false)]] : List PV).getD j default = (fun i => ePlace (([({ fSet := (cSet (pSet r)), fMore := 42, fEnd := false } : Place)]).getD i dPlace)) j, (((ps ++ ([({ fSet := (cSet (pSet r)), fMore := 0, fEnd := false } : Place)])).length) + (([({ fSet := (cSet (pSet r)), fMore := 42, fEnd := false } : Place)]).length)) * 16 ≤ 140737488355328]) (E' := [(2, none, .own 3), (3, none, .own 0), (5, none, vstr (pRest (pSet r)))]) (H' := [oL 3 eI 1 0 st, .dead, .dead, .arr 73 3 ((ps ++ ([({ fSet := (cSet (pSet r)), fMore := 0, fEnd := false } : Place)])).length + ([({ fSet := (cSet (pSet r)), fMore := 42, fEnd := false } : Place)]).length) (appF (fun i => .p (ePlace ((ps ++ ([({ fSet := (cSet (pSet r)), fMore := 0, fEnd := false } : Place)])).getD i dPlace))) ((ps ++ ([({ fSet := (cSet (pSet r)), fMore := 0, fEnd := false } : Place)])).length) (fun j => .p (ePlace (([({ fSet := (cSet (pSet r)), fMore := 42, fEnd := false } : Place)]).getD j dPlace))))]) [] [(4, .p ((eL ePlace 3 dPlace) ([({ fSet := (cSet (pSet r)), fMore := 42, fEnd := false } : Place)])))] [2, 3, 5] (by kernel_rfl) ?_ ?_
          · refine al ?_ (al ?_ (trivial))
            · exact lit_pv (e := ePlace) (d := dPlace) (l := [({ fSet := (cSet (pSet r)), fMore := 42, fEnd := false } : Place)])
            · first | omega | (intro hg; simp at hg; omega) | (simp; done) | (simp_all; done) | (simp_all; omega) | grind
          refine nm_pre (E' := [(2, none, .own 3), (3, none, .own 0), (5, none, vstr (pRest (pSet r)))]) (H' := [oL 3 eI 1 0 st, .dead, .dead, oL 73 ePlace 3 dPlace ((ps ++ ([({ fSet := (cSet (pSet r)), fMore := 0, fEnd := false } : Place)])) ++ ([({ fSet := (cSet (pSet r)), fMore := 42, fEnd := false } : Place)]))]) (fun A_ W_ hS => sl_arr (n := ((ps ++ ([({ fSet := (cSet (pSet r)), fMore := 0, fEnd := false } : Place)])).length + ([({ fSet := (cSet (pSet r)), fMore := 42, fEnd := false } : Place)]).length)) (n' := ((ps ++ ([({ fSet := (cSet (pSet r)), fMore := 0, fEnd := false } : Place)])) ++ ([({ fSet := (cSet (pSet r)), fMore := 42, fEnd := false } : Place)])).length) (f := appF (fun i => .p (ePlace ((ps ++ ([({ fSet := (cSet (pSet r)), fMore := 0, fEnd := false } : Place)])).getD i dPlace))) ((ps ++ ([({ fSet := (cSet (pSet r)), fMore := 0, fEnd := false } : Place)])).length) (fun j => .p (ePlace (([({ fSet := (cSet (pSet r)), fMore := 42, fEnd := false } : Place)]).getD j dPlace)))) 3 (fun i => .p (ePlace (((ps ++ ([({ fSet := (cSet (pSet r)), fMore := 0, fEnd := false } : Place)])) ++ ([({ fSet := (cSet (pSet r)), fMore := 42, fEnd := false } : Place)])).getD i dPlace))) (by kernel_rfl) (by simp) (by first | exact appN | exact nilN | exact app0 | exact nilV _) hS) ?_
          refine in_n ?_
          refine lp_end ((k - 1), ((ps ++ ([({ fSet := (cSet (pSet r)), fMore := 0, fEnd := false } : Place)])) ++ ([({ fSet := (cSet (pSet r)), fMore := 42, fEnd := false } : Place)])), st, (pRest (pSet r))) ?_ ?_ ?_
          · show (parseM (k - 1) ((ps ++ ([({ fSet := (cSet (pSet r)), fMore := 0, fEnd := false } : Place)])) ++ ([({ fSet := (cSet (pSet r)), fMore := 42, fEnd := false } : Place)])) st (pRest (pSet r)) = parseS s) ∧ ((pRest (pSet r)).length < (k - 1)) ∧ (((ps ++ ([({ fSet := (cSet (pSet r)), fMore := 0, fEnd := false } : Place)])) ++ ([({ fSet := (cSet (pSet r)), fMore := 42, fEnd := false } : Place)])).length + (pRest (pSet r)).length ≤ s.length) ∧ (0 < st.length) ∧ (st.length + (pRest (pSet r)).length ≤ s.length + 1)
            refine ⟨?_, ?_, ?_, ?_, ?_⟩
            · rw [← hi0_0]; first | exact (parseM_3 (by omega) hc1 hc2 hc3).symm | exact (parseM_5 (by omega) hc1 hc4 hc5).symm | exact (parseM_6 (by omega) hc1 hc4 hc5).symm
            · have hp : 0 < r.length := List.length_pos_iff.2 (by first | exact hc3 | exact fun h => hc1 (.inl h)); have h1 := hr hp; (try have h43 := hr2 hp hc5); (try simp only [List.length_append, List.length_drop, List.length_cons, List.length_nil]); omega
            · have hp : 0 < r.length := List.length_pos_iff.2 (by first | exact hc3 | exact fun h => hc1 (.inl h)); have h1 := hr hp; (try have h43 := hr2 hp hc5); (try simp only [List.length_append, List.length_drop, List.length_cons, List.length_nil]); omega
            · have hp : 0 < r.length := List.length_pos_iff.2 (by first | exact hc3 | exact fun h => hc1 (.inl h)); have h1 := hr hp; (try have h43 := hr2 hp hc5); (try simp only [List.length_append, List.length_drop, List.length_cons, List.length_nil]); omega
            · have hp : 0 < r.length := List.length_pos_iff.2 (by first | exact hc3 | exact fun h => hc1 (.inl h)); have h1 := hr hp; (try have h43 := hr2 hp hc5); (try simp only [List.length_append, List.length_drop, List.length_cons, List.length_nil]); omega
          · show (pRest (pSet r)).length < r.length
            have hp : 0 < r.length := List.length_pos_iff.2 (by first | exact hc3 | exact fun h => hc1 (.inl h)); have h1 := hr hp; (try have h43 := hr2 hp hc5); (try simp only [List.length_append, List.length_drop, List.length_cons, List.length_nil]); omega
          · intro A_ W_ hS
            exact sl_weak (vc := [∀ i, i < st.length → D.p (eI (st.getD i 0)) = .p (eI (st.getD i 0)), ∀ i, i < ((ps ++ ([({ fSet := (cSet (pSet r)), fMore := 0, fEnd := false } : Place)])) ++ ([({ fSet := (cSet (pSet r)), fMore := 42, fEnd := false } : Place)])).length → D.p (ePlace (((ps ++ ([({ fSet := (cSet (pSet r)), fMore := 0, fEnd := false } : Place)])) ++ ([({ fSet := (cSet (pSet r)), fMore := 42, fEnd := false } : Place)])).getD i dPlace)) = .p (ePlace (((ps ++ ([({ fSet := (cSet (pSet r)), fMore := 0, fEnd := false } : Place)])) ++ ([({ fSet := (cSet (pSet r)), fMore := 42, fEnd := false } : Place)])).getD i dPlace))]) [0, 3] [2, 3, 5] (by kernel_rfl) (al (fun _ _ => rfl) (al (fun _ _ => rfl) trivial)) hS
        · skip
          refine tr_skip ?_
          refine tr_then ?_
          refine tr_r (vc := [∀ j, j < 1 → ([.agg [.v (.int .u64 (cSet (pSet r))), .v (.int .u8 (pMore (pSet r))), .v (.bool false)]] : List PV).getD j default = (fun i => ePlace (([({ fSet := (cSet (pSet r)), fMore := (pMore (pSet r)), fEnd := false } : Place)]).getD i dPlace)) j, (ps.length + (([({ fSet := (cSet (pSet r)), fMore := (pMore (pSet r)), fEnd := false } : Place)]).length)) * 16 ≤ 140737488355328]) (E' := [(2, none, .own 2), (3, none, .own 0), (5, none, vstr (pRest (pSet r)))]) (H' := [oL 3 eI 1 0 st, .dead, .arr 73 3 (ps.length + ([({ fSet := (cSet (pSet r)), fMore := (pMore (pSet r)), fEnd := false } : Place)]).length) (appF (fun i => .p (ePlace (ps.getD i dPlace))) ps.length (fun j => .p (ePlace (([({ fSet := (cSet (pSet r)), fMore := (pMore (pSet r)), fEnd := false } : Place)]).getD j dPlace))))]) [] [(4, .p ((eL ePlace 3 dPlace) ([({ fSet := (cSet (pSet r)), fMore := (pMore (pSet r)), fEnd := false } : Place)])))] [2, 3, 5] (by kernel_rfl) ?_ ?_
          · refine al ?_ (al ?_ (trivial))
            · exact lit_pv (e := ePlace) (d := dPlace) (l := [({ fSet := (cSet (pSet r)), fMore := (pMore (pSet r)), fEnd := false } : Place)])
            · first | omega | (intro hg; simp at hg; omega) | (simp; done) | (simp_all; done) | (simp_all; omega) | grind
          refine nm_pre (E' := [(2, none, .own 2), (3, none, .own 0), (5, none, vstr (pRest (pSet r)))]) (H' := [oL 3 eI 1 0 st, .dead, oL 73 ePlace 3 dPlace (ps ++ ([({ fSet := (cSet (pSet r)), fMore := (pMore (pSet r)), fEnd := false } : Place)]))]) (fun A_ W_ hS => sl_arr (n := (ps.length + ([({ fSet := (cSet (pSet r)), fMore := (pMore (pSet r)), fEnd := false } : Place)]).length)) (n' := (ps ++ ([({ fSet := (cSet (pSet r)), fMore := (pMore (pSet r)), fEnd := false } : Place)])).length) (f := appF (fun i => .p (ePlace (ps.getD i dPlace))) ps.length (fun j => .p (ePlace (([({ fSet := (cSet (pSet r)), fMore := (pMore (pSet r)), fEnd := false } : Place)]).getD j dPlace)))) 2 (fun i => .p (ePlace ((ps ++ ([({ fSet := (cSet (pSet r)), fMore := (pMore (pSet r)), fEnd := false } : Place)])).getD i dPlace))) (by kernel_rfl) (by simp) (by first | exact appN | exact nilN | exact app0 | exact nilV _) hS) ?_
          refine in_n ?_
          refine lp_end ((k - 1), (ps ++ ([({ fSet := (cSet (pSet r)), fMore := (pMore (pSet r)), fEnd := false } : Place)])), st, (pRest (pSet r))) ?_ ?_ ?_
          · show (parseM (k - 1) (ps ++ ([({ fSet := (cSet (pSet r)), fMore := (pMore (pSet r)), fEnd := false } : Place)])) st (pRest (pSet r)) = parseS s) ∧ ((pRest (pSet r)).length < (k - 1)) ∧ ((ps ++ ([({ fSet := (cSet (pSet r)), fMore := (pMore (pSet r)), fEnd := false } : Place)])).length + (pRest (pSet r)).length ≤ s.length) ∧ (0 < st.length) ∧ (st.length + (pRest (pSet r)).length ≤ s.length + 1)
            refine ⟨?_, ?_, ?_, ?_, ?_⟩
            · rw [← hi0_0]; first | exact (parseM_3 (by omega) hc1 hc2 hc3).symm | exact (parseM_5 (by omega) hc1 hc4 hc5).symm | exact (parseM_6 (by omega) hc1 hc4 hc5).symm
            · have hp : 0 < r.length := List.length_pos_iff.2 (by first | exact hc3 | exact fun h => hc1 (.inl h)); have h1 := hr hp; (try have h43 := hr2 hp hc5); (try simp only [List.length_append, List.length_drop, List.length_cons, List.length_nil]); omega
            · have hp : 0 < r.length := List.length_pos_iff.2 (by first | exact hc3 | exact fun h => hc1 (.inl h)); have h1 := hr hp; (try have h43 := hr2 hp hc5); (try simp only [List.length_append, List.length_drop, List.length_cons, List.length_nil]); omega
            · have hp : 0 < r.length := List.length_pos_iff.2 (by first | exact hc3 | exact fun h => hc1 (.inl h)); have h1 := hr hp; (try have h43 := hr2 hp hc5); (try simp only [List.length_append, List.length_drop, List.length_cons, List.length_nil]); omega
            · have hp : 0 < r.length := List.length_pos_iff.2 (by first | exact hc3 | exact fun h => hc1 (.inl h)); have h1 := hr hp; (try have h43 := hr2 hp hc5); (try simp only [List.length_append, List.length_drop, List.length_cons, List.length_nil]); omega
          · show (pRest (pSet r)).length < r.length
            have hp : 0 < r.length := List.length_pos_iff.2 (by first | exact hc3 | exact fun h => hc1 (.inl h)); have h1 := hr hp; (try have h43 := hr2 hp hc5); (try simp only [List.length_append, List.length_drop, List.length_cons, List.length_nil]); omega
          · intro A_ W_ hS
            exact sl_weak (vc := [∀ i, i < st.length → D.p (eI (st.getD i 0)) = .p (eI (st.getD i 0)), ∀ i, i < (ps ++ ([({ fSet := (cSet (pSet r)), fMore := (pMore (pSet r)), fEnd := false } : Place)])).length → D.p (ePlace ((ps ++ ([({ fSet := (cSet (pSet r)), fMore := (pMore (pSet r)), fEnd := false } : Place)])).getD i dPlace)) = .p (ePlace ((ps ++ ([({ fSet := (cSet (pSet r)), fMore := (pMore (pSet r)), fEnd := false } : Place)])).getD i dPlace))]) [0, 2] [2, 3, 5] (by kernel_rfl) (al (fun _ _ => rfl) (al (fun _ _ => rfl) trivial)) hS
end Go.Proofs.Ytjnjmnfacaakfaa
