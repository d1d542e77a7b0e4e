/-
  LanguageParses: whatever the input, the call returns true, and each argument reads afterwards as it read before. (Part 4 of 9 of its proof.)
-/
import Derived.Test.YtjnjmnfacaakfaaCP3
import Derived.Test.YtjnjmnfacaakfaaRows
namespace Go.Proofs.Ytjnjmnfacaakfaa
open Go.Eng
theorem namesSymbolB_ok (b : UInt8) : Pure Try.prog 42 [.v (.int .u8 (b.toNat : Int))] (vint .i64 (sym (b.toNat : Int))) := namesSymbol_ok _ (by omega) (by have := b.toNat_lt; omega)
theorem refSymbolB_ok (b : UInt8) : Pure Try.prog 43 [.v (.int .u8 (b.toNat : Int))] (vint .i64 (sym (b.toNat : Int))) := refSymbol_ok _ (by omega) (by have := b.toNat_lt; omega)
def word64 (S : Nat → Bool) : Int := ((wordN S 64 : Nat) : Int)
def noSet : Nat → Bool := fun _ => false
theorem word64_noSet : word64 noSet = 0 := by decide +kernel
theorem word64_36 : word64 (upd noSet 36 true) = 68719476736 := by decide +kernel
theorem word64_or (S : Nat → Bool) (i : Int) (h0 : 0 ≤ i) (h1 : i < 64) : bitsOf .or .u64 (word64 S) (IntKind.wrap .u64 (1 * 2 ^ min i.toNat (IntKind.bits .u64))) = word64 (upd S i.toNat true) := by
  obtain ⟨n, rfl⟩ := Int.eq_ofNat_of_zero_le h0
  have hn : n < 64 := by omega
  show bitsOf .or .u64 (word64 S) (IntKind.wrap .u64 (1 * 2 ^ min ((n : Int)).toNat (IntKind.bits .u64))) = word64 (upd S n true)
  rw [shl_u64 hn]
  unfold word64
  rw [or_u64 (wordN_lt S 64) (Nat.pow_lt_pow_right (by omega) hn), wordN_or S hn]
def range (S : Nat → Bool) (f t : Int) : Nat → Bool := fun m => S m || decide (f ≤ (m : Int) ∧ (m : Int) < t)
theorem range_none (S : Nat → Bool) (f : Int) : range S f f = S := by
  funext m
  simp [range]
  intro h1 h2
  omega
theorem range_step (S : Nat → Bool) (f t : Int) (h0 : 0 ≤ t) (h : f ≤ t) : upd (range S f t) t.toNat true = range S f (t + 1) := by
  funext m
  unfold upd range
  by_cases e : m = t.toNat
  · rw [if_pos e]
    have : f ≤ (m : Int) ∧ (m : Int) < t + 1 := by omega
    simp [this]
  · rw [if_neg e]
    congr 1
    rw [decide_eq_decide]
    omega
theorem range_or (S : Nat → Bool) (f t : Int) (h0 : 0 ≤ t) (h1 : t < 64) (h : f ≤ t) : bitsOf .or .u64 (word64 (range S f t)) (IntKind.wrap .u64 (1 * 2 ^ min t.toNat (IntKind.bits .u64))) = word64 (range S f (t + 1)) := by
  rw [word64_or _ _ h0 h1, range_step _ _ _ h0 h]
def s0 (l : List UInt8) : Int := sym (l.getD 0 0).toNat
def s1 (l : List UInt8) : Int := sym ((l.drop 1).getD 1 0).toNat
def memb : Nat → List UInt8 → (Nat → Bool) → Option (Nat → Bool)
  | 0, _, S => some S
  | n + 1, l, S => if l.length = 0 then some S else
    if s0 l < 0 ∨ s0 l = 36 then none else
    if hasPre (l.drop 1) [45] = true then
      (if (l.drop 1).length < 2 then none else
        if (s1 l < s0 l ∨ s1 l = 36) ∨ s0 l < 26 ∧ 26 ≤ s1 l then none
        else memb n ((l.drop 1).drop 2) (range S (s0 l) (s1 l + 1)))
    else memb n (l.drop 1) (range S (s0 l) (s0 l + 1))
theorem memb_nil {k : Nat} {l : List UInt8} {S : Nat → Bool} (h : l.length = 0) : memb k l S = some S := by
  cases k with
  | zero => rfl
  | succ k => rw [memb, if_pos h]
theorem memb_1 {k : Nat} {l : List UInt8} {S : Nat → Bool} (h : 0 < l.length) (hk : l.length ≤ k) (h1 : s0 l < 0 ∨ s0 l = 36) : memb k l S = none := by
  obtain ⟨k, rfl⟩ : ∃ j, k = j + 1 := ⟨k - 1, by omega⟩
  rw [memb, if_neg (by omega), if_pos h1]
theorem memb_2 {k : Nat} {l : List UInt8} {S : Nat → Bool} (h : 0 < l.length) (hk : l.length ≤ k) (h1 : ¬ (s0 l < 0 ∨ s0 l = 36)) (h2 : hasPre (l.drop 1) [45] = true) (h3 : (l.drop 1).length < 2) : memb k l S = none := by
  obtain ⟨k, rfl⟩ : ∃ j, k = j + 1 := ⟨k - 1, by omega⟩
  rw [memb, if_neg (by omega), if_neg h1, if_pos h2, if_pos h3]
theorem memb_3 {k : Nat} {l : List UInt8} {S : Nat → Bool} (h : 0 < l.length) (hk : l.length ≤ k) (h1 : ¬ (s0 l < 0 ∨ s0 l = 36)) (h2 : hasPre (l.drop 1) [45] = true) (h3 : ¬ (l.drop 1).length < 2) (h4 : (s1 l < s0 l ∨ s1 l = 36) ∨ s0 l < 26 ∧ 26 ≤ s1 l) : memb k l S = none := by
  obtain ⟨k, rfl⟩ : ∃ j, k = j + 1 := ⟨k - 1, by omega⟩
  rw [memb, if_neg (by omega), if_neg h1, if_pos h2, if_neg h3, if_pos h4]
theorem memb_4 {k : Nat} {l : List UInt8} {S : Nat → Bool} (h : 0 < l.length) (hk : l.length ≤ k) (h1 : ¬ (s0 l < 0 ∨ s0 l = 36)) (h2 : hasPre (l.drop 1) [45] = true) (h3 : ¬ (l.drop 1).length < 2) (h4 : ¬ ((s1 l < s0 l ∨ s1 l = 36) ∨ s0 l < 26 ∧ 26 ≤ s1 l)) : memb k l S = memb (k - 1) ((l.drop 1).drop 2) (range S (s0 l) (s1 l + 1)) := by
  obtain ⟨k, rfl⟩ : ∃ j, k = j + 1 := ⟨k - 1, by omega⟩
  rw [memb, if_neg (by omega), if_neg h1, if_pos h2, if_neg h3, if_neg h4]; rfl
theorem memb_5 {k : Nat} {l : List UInt8} {S : Nat → Bool} (h : 0 < l.length) (hk : l.length ≤ k) (h1 : ¬ (s0 l < 0 ∨ s0 l = 36)) (h2 : ¬ hasPre (l.drop 1) [45] = true) : memb k l S = memb (k - 1) (l.drop 1) (range S (s0 l) (s0 l + 1)) := by
  obtain ⟨k, rfl⟩ : ∃ j, k = j + 1 := ⟨k - 1, by omega⟩
  rw [memb, if_neg (by omega), if_neg h1, if_neg h2]; rfl
def classM (b : List UInt8) : Option (Nat → Bool) := if (b.getD 0 0).toNat = 45 then memb b.length (b.drop 1) (upd noSet 36 true) else memb b.length b noSet
def classS (s : List UInt8) : Option ((Nat → Bool) × List UInt8) := if (cutB s 93).2.2 = false ∨ (cutB s 93).1 = [] then none else (classM (cutB s 93).1).map fun S => (S, (cutB s 93).2.1)
def cSet (x : Option ((Nat → Bool) × List UInt8)) : Int := match x with
  | some y => word64 y.1
  | none => 0
def cRest (x : Option ((Nat → Bool) × List UInt8)) : List UInt8 := match x with
  | some y => y.2
  | none => []
theorem cut1_le (s : List UInt8) (c : UInt8) : (cutB s c).1.length ≤ s.length := by
  unfold cutB
  split
  · simp; omega
  · simp
theorem class_some {s : List UInt8} {S : Nat → Bool} (h : ¬ ((cutB s 93).2.2 = false ∨ (cutB s 93).1 = [])) (h1 : classM (cutB s 93).1 = some S) : classS s = some (S, (cutB s 93).2.1) := by
  unfold classS
  rw [if_neg h, h1]; rfl
theorem class_none {s : List UInt8} (h : ¬ ((cutB s 93).2.2 = false ∨ (cutB s 93).1 = [])) (h1 : classM (cutB s 93).1 = none) : classS s = none := by
  unfold classS
  rw [if_neg h, h1]; rfl
theorem class_none0 {s : List UInt8} (h : (cutB s 93).2.2 = false ∨ (cutB s 93).1 = []) : classS s = none := by
  unfold classS
  rw [if_pos h]
theorem sym_ge (c : Int) : -1 ≤ sym c := by
  unfold sym
  (repeat (split)) <;> omega
theorem class_ok (s : List UInt8) (hb0 : s.length < 4611686018427387904) : Pure Try.prog 55 [.s s] (.tup [vint .u64 (cSet (classS s)), vstr (cRest (classS s)), vbool ((classS s).isSome)]) := by
  have hcl := cut1_le s 93
  refine pure_of (fn := Try.f55) Try.func55 rfl rfl fun F_ W0_ => ?_
  refine tr_seq ?_
  refine tr_r (vc := []) (E' := [(0, none, vstr s), (2, none, vint .u64 0)]) (H' := []) [] [] [0, 2] (by kernel_rfl) ?_ ?_
  · exact trivial
  refine tr_then (tr_seq ?_)
  refine tr_r (vc := [Pure Try.prog 57 [.s s, .s ([93] : List UInt8)] (.tup [vstr ((cutB s 93).1), vstr ((cutB s 93).2.1), vbool ((cutB s 93).2.2)])]) (E' := [(2, none, vint .u64 0), (3, none, vstr ((cutB s 93).2.1)), (4, none, vbool ((cutB s 93).2.2)), (5, none, vstr ((cutB s 93).1))]) (H' := []) [] [(1, .tup [vstr ((cutB s 93).1), vstr ((cutB s 93).2.1), vbool ((cutB s 93).2.2)])] [2, 3, 4, 5] (by kernel_rfl) ?_ ?_
  · refine al ?_ (trivial)
    · exact cut1_ok _ _ (by omega)
  refine tr_then (tr_seq ?_)
  refine tr_seq ?_
  refine tr_r (vc := [(!(!((cutB s 93).2.2))) = true → (!(!((cutB s 93).2.2))) = true, (!(!((cutB s 93).2.2))) = true → (!(!((cutB s 93).2.2))) = true]) (E' := [(2, none, vint .u64 0), (3, none, vstr ((cutB s 93).2.1)), (5, none, vstr ((cutB s 93).1)), (20, none, vbool ((!((cutB s 93).2.2)) || (((cutB s 93).1) == ([] : List UInt8))))]) (H' := []) [] [] [2, 3, 5, 20] (by kernel_rfl) ?_ ?_
  · refine al ?_ (al ?_ (trivial))
    · exact id
    · exact id
  refine tr_then ?_
  refine tr_condP ((!((cutB s 93).2.2)) || (((cutB s 93).1) == ([] : List UInt8))) ((((cutB s 93).2.2) = false) ∨ (((cutB s 93).1) = ([] : List UInt8))) (by simp) (by kernel_rfl) (fun hc1 => ?_) (fun hc1 => ?_)
  · skip
    refine tr_seq ?_
    refine tr_r (vc := []) (E' := [(2, none, vint .u64 0), (3, none, vstr ([] : List UInt8)), (4, none, vbool false)]) (H' := []) [] [] [2, 3, 4] (by kernel_rfl) ?_ ?_
    · exact trivial
    refine tr_then ?_
    refine tr_pre (E' := (2, none, vint .u64 (cSet (classS s))) :: [(2, none, vint .u64 0), (3, none, vstr ([] : List UInt8)), (4, none, vbool false)]) (H' := []) (fun A_ W_ hS => sl_set_imp (d := vint .u64 0) 2 (vint .u64 (cSet (classS s))) (by kernel_rfl) ?_ hS) ?_
    · refine imp_eq (congrArg (fun x => D.p ((eK .u64) x)) (a₁ := 0) (a₂ := (cSet (classS s))) ?_)
      rw [class_none0 hc1]; rfl
    refine tr_pre (E' := [(2, none, vint .u64 (cSet (classS s))), (3, none, vstr ([] : List UInt8)), (4, none, vbool false)]) (H' := []) (fun A_ W_ hS => sl_proj (ts := [2, 3, 4]) (by kernel_rfl) hS) ?_
    refine tr_pre (E' := (3, none, vstr (cRest (classS s))) :: [(2, none, vint .u64 (cSet (classS s))), (3, none, vstr ([] : List UInt8)), (4, none, vbool false)]) (H' := []) (fun A_ W_ hS => sl_set_imp (d := vstr ([] : List UInt8)) 3 (vstr (cRest (classS s))) (by kernel_rfl) ?_ hS) ?_
    · refine imp_eq (congrArg (fun x => D.p (eS x)) (a₁ := ([] : List UInt8)) (a₂ := (cRest (classS s))) ?_)
      rw [class_none0 hc1]; rfl
    refine tr_pre (E' := [(2, none, vint .u64 (cSet (classS s))), (3, none, vstr (cRest (classS s))), (4, none, vbool false)]) (H' := []) (fun A_ W_ hS => sl_proj (ts := [2, 3, 4]) (by kernel_rfl) hS) ?_
    refine tr_pre (E' := (4, none, vbool ((classS s).isSome)) :: [(2, none, vint .u64 (cSet (classS s))), (3, none, vstr (cRest (classS s))), (4, none, vbool false)]) (H' := []) (fun A_ W_ hS => sl_set_imp (d := vbool false) 4 (vbool ((classS s).isSome)) (by kernel_rfl) ?_ hS) ?_
    · refine imp_eq (congrArg (fun x => D.p (eB x)) (a₁ := false) (a₂ := ((classS s).isSome)) ?_)
      rw [class_none0 hc1]; rfl
    refine tr_pre (E' := [(2, none, vint .u64 (cSet (classS s))), (3, none, vstr (cRest (classS s))), (4, none, vbool ((classS s).isSome))]) (H' := []) (fun A_ W_ hS => sl_proj (ts := [2, 3, 4]) (by kernel_rfl) hS) ?_
    exact tr_return' (vc := []) (ds := [vint .u64 (cSet (classS s)), vstr (cRest (classS s)), vbool ((classS s).isSome)]) (by kernel_rfl) trivial (by kernel_rfl) (fun _ _ h => h)
  · skip
    refine tr_skip ?_
    refine tr_then ?_
    refine tr_join (α := (List UInt8) × (Nat → Bool)) (fun z : (List UInt8) × (Nat → Bool) => (fun (l : List UInt8) (S : Nat → Bool) => [(2, none, vint .u64 (word64 S)), (3, none, vstr ((cutB s 93).2.1)), (5, none, vstr l)]) z.1 z.2) (fun z : (List UInt8) × (Nat → Bool) => (fun (l : List UInt8) (S : Nat → Bool) => []) z.1 z.2) (fun z : (List UInt8) × (Nat → Bool) => (fun (l : List UInt8) (S : Nat → Bool) => (memb (cutB s 93).1.length l S = classM (cutB s 93).1) ∧ (l.length ≤ (cutB s 93).1.length)) z.1 z.2) ?_ ?_
    · intro z hz
      obtain ⟨l, S⟩ := z
      have hz : (memb (cutB s 93).1.length l S = classM (cutB s 93).1) ∧ (l.length ≤ (cutB s 93).1.length) := hz
      obtain ⟨hj6_0, hj6_1⟩ := hz
      refine tr_seq ?_
      refine tr_block ?_
      refine tr_loop (α := Nat × (List UInt8) × (Nat → Bool)) (fun z : Nat × (List UInt8) × (Nat → Bool) => (fun (k : Nat) (l : List UInt8) (S : Nat → Bool) => [(2, none, vint .u64 (word64 S)), (3, none, vstr ((cutB s 93).2.1)), (5, none, vstr l)]) z.1 z.2.1 z.2.2) (fun z : Nat × (List UInt8) × (Nat → Bool) => (fun (k : Nat) (l : List UInt8) (S : Nat → Bool) => []) z.1 z.2.1 z.2.2) (fun z : Nat × (List UInt8) × (Nat → Bool) => (fun (k : Nat) (l : List UInt8) (S : Nat → Bool) => (memb k l S = classM (cutB s 93).1) ∧ (l.length ≤ k) ∧ (l.length ≤ s.length)) z.1 z.2.1 z.2.2) (fun z : Nat × (List UInt8) × (Nat → Bool) => (fun (k : Nat) (l : List UInt8) (S : Nat → Bool) => l.length) z.1 z.2.1 z.2.2) ((cutB s 93).1.length, l, S) ?_ ?_ ?_
      · show (memb ((cutB s 93).1.length) l S = classM (cutB s 93).1) ∧ (l.length ≤ ((cutB s 93).1.length)) ∧ (l.length ≤ s.length)
        refine ⟨?_, ?_, ?_⟩
        · exact hj6_0
        · exact hj6_1
        · omega
      · intro A_ W_ hS
        exact sl_weak (vc := []) [] [2, 3, 5] (by kernel_rfl) trivial hS
      · intro z hz
        obtain ⟨k, l, S⟩ := z
        have hz : (memb k l S = classM (cutB s 93).1) ∧ (l.length ≤ k) ∧ (l.length ≤ s.length) := hz
        obtain ⟨hi0_0, hi0_1, hi0_2⟩ := hz
        have e0 : s0 l = sym (l.getD 0 0).toNat := rfl
        have e1 : s1 l = sym ((l.drop 1).getD 1 0).toNat := rfl
        have b0 := sym_le ((l.getD 0 0).toNat : Int)
        have b1 := sym_le (((l.drop 1).getD 1 0).toNat : Int)
        have b2 := sym_ge ((l.getD 0 0).toNat : Int)
        have b3 := sym_ge (((l.drop 1).getD 1 0).toNat : Int)
        refine tr_seq ?_
        refine tr_seq ?_
        refine tr_r (vc := []) (E' := [(2, none, vint .u64 (word64 S)), (3, none, vstr ((cutB s 93).2.1)), (5, none, vstr l), (28, none, vbool (decide (0 < ((l.length : Nat) : Int))))]) (H' := []) [] [] [2, 3, 5, 28] (by kernel_rfl) ?_ ?_
        · exact trivial
        refine tr_then ?_
        refine tr_condP (decide (0 < ((l.length : Nat) : Int))) (0 < ((l.length : Nat) : Int)) (by simp) (by kernel_rfl) (fun hc2 => ?_) (fun hc2 => ?_)
        · skip
          refine tr_skip ?_
          refine tr_then ?_
          refine tr_block ?_
          refine tr_seq ?_
          refine tr_r (vc := [(0 : Int) ≤ 0, 0 < (l.length : Int), Pure Try.prog 42 [.v (.int .u8 ((l.getD 0 0).toNat : Int))] (vint .i64 (sym ((l.getD 0 0).toNat : Int)))]) (E' := [(2, none, vint .u64 (word64 S)), (3, none, vstr ((cutB s 93).2.1)), (5, none, vstr l), (6, none, vint .i64 (sym ((l.getD 0 0).toNat : Int)))]) (H' := []) [] [(2, vint .i64 (sym ((l.getD 0 0).toNat : Int)))] [2, 3, 5, 6] (by kernel_rfl) ?_ ?_
          · refine al ?_ (al ?_ (al ?_ (trivial)))
            · omega
            · omega
            · first | exact namesSymbolB_ok _ | exact namesSymbol_ok _ (by omega) (by omega)
          refine tr_then (tr_seq ?_)
          refine tr_r (vc := []) (E' := [(2, none, vint .u64 (word64 S)), (3, none, vstr ((cutB s 93).2.1)), (5, none, vstr l), (6, none, vint .i64 (sym ((l.getD 0 0).toNat : Int))), (7, none, vint .i64 (sym ((l.getD 0 0).toNat : Int)))]) (H' := []) [] [] [2, 3, 5, 6, 7] (by kernel_rfl) ?_ ?_
          · exact trivial
          refine tr_then (tr_seq ?_)
          refine tr_seq ?_
          refine tr_r (vc := [(!(decide ((sym ((l.getD 0 0).toNat : Int)) < 0))) = true → (!(decide ((sym ((l.getD 0 0).toNat : Int)) < 0))) = true, (!(decide ((sym ((l.getD 0 0).toNat : Int)) < 0))) = true → (!(decide ((sym ((l.getD 0 0).toNat : Int)) < 0))) = true]) (E' := [(2, none, vint .u64 (word64 S)), (3, none, vstr ((cutB s 93).2.1)), (5, none, vstr l), (6, none, vint .i64 (sym ((l.getD 0 0).toNat : Int))), (7, none, vint .i64 (sym ((l.getD 0 0).toNat : Int))), (38, none, vbool ((decide ((sym ((l.getD 0 0).toNat : Int)) < 0)) || ((sym ((l.getD 0 0).toNat : Int)) == 36)))]) (H' := []) [] [] [2, 3, 5, 6, 7, 38] (by kernel_rfl) ?_ ?_
          · refine al ?_ (al ?_ (trivial))
            · exact id
            · exact id
          refine tr_then ?_
          refine tr_condP ((decide ((sym ((l.getD 0 0).toNat : Int)) < 0)) || ((sym ((l.getD 0 0).toNat : Int)) == 36)) (((sym ((l.getD 0 0).toNat : Int)) < 0) ∨ ((sym ((l.getD 0 0).toNat : Int)) = 36)) (by simp) (by kernel_rfl) (fun hc3 => ?_) (fun hc3 => ?_)
          · skip
            refine tr_seq ?_
            refine tr_r (vc := []) (E' := [(2, none, vint .u64 0), (3, none, vstr ([] : List UInt8)), (4, none, vbool false)]) (H' := []) [] [] [2, 3, 4] (by kernel_rfl) ?_ ?_
            · exact trivial
            refine tr_then ?_
            refine tr_pre (E' := (2, none, vint .u64 (cSet (classS s))) :: [(2, none, vint .u64 0), (3, none, vstr ([] : List UInt8)), (4, none, vbool false)]) (H' := []) (fun A_ W_ hS => sl_set_imp (d := vint .u64 0) 2 (vint .u64 (cSet (classS s))) (by kernel_rfl) ?_ hS) ?_
            · refine imp_eq (congrArg (fun x => D.p ((eK .u64) x)) (a₁ := 0) (a₂ := (cSet (classS s))) ?_)
              first | (rw [class_some hc1 (by rw [← hi0_0, memb_nil (by omega)])]; rfl) | ((first | (rw [class_none hc1 (by rw [← hi0_0]; exact memb_1 (by omega) hi0_1 (by assumption))]) | (rw [class_none hc1 (by rw [← hi0_0]; exact memb_2 (by omega) hi0_1 (by assumption) (by assumption) (by omega))]) | (rw [class_none hc1 (by rw [← hi0_0]; exact memb_3 (by omega) hi0_1 (by assumption) (by assumption) (by omega) (by assumption))])); rfl)
            refine tr_pre (E' := [(2, none, vint .u64 (cSet (classS s))), (3, none, vstr ([] : List UInt8)), (4, none, vbool false)]) (H' := []) (fun A_ W_ hS => sl_proj (ts := [2, 3, 4]) (by kernel_rfl) hS) ?_
            refine tr_pre (E' := (3, none, vstr (cRest (classS s))) :: [(2, none, vint .u64 (cSet (classS s))), (3, none, vstr ([] : List UInt8)), (4, none, vbool false)]) (H' := []) (fun A_ W_ hS => sl_set_imp (d := vstr ([] : List UInt8)) 3 (vstr (cRest (classS s))) (by kernel_rfl) ?_ hS) ?_
            · refine imp_eq (congrArg (fun x => D.p (eS x)) (a₁ := ([] : List UInt8)) (a₂ := (cRest (classS s))) ?_)
              first | (rw [class_some hc1 (by rw [← hi0_0, memb_nil (by omega)])]; rfl) | ((first | (rw [class_none hc1 (by rw [← hi0_0]; exact memb_1 (by omega) hi0_1 (by assumption))]) | (rw [class_none hc1 (by rw [← hi0_0]; exact memb_2 (by omega) hi0_1 (by assumption) (by assumption) (by omega))]) | (rw [class_none hc1 (by rw [← hi0_0]; exact memb_3 (by omega) hi0_1 (by assumption) (by assumption) (by omega) (by assumption))])); rfl)
            refine tr_pre (E' := [(2, none, vint .u64 (cSet (classS s))), (3, none, vstr (cRest (classS s))), (4, none, vbool false)]) (H' := []) (fun A_ W_ hS => sl_proj (ts := [2, 3, 4]) (by kernel_rfl) hS) ?_
            refine tr_pre (E' := (4, none, vbool ((classS s).isSome)) :: [(2, none, vint .u64 (cSet (classS s))), (3, none, vstr (cRest (classS s))), (4, none, vbool false)]) (H' := []) (fun A_ W_ hS => sl_set_imp (d := vbool false) 4 (vbool ((classS s).isSome)) (by kernel_rfl) ?_ hS) ?_
            · refine imp_eq (congrArg (fun x => D.p (eB x)) (a₁ := false) (a₂ := ((classS s).isSome)) ?_)
              first | (rw [class_some hc1 (by rw [← hi0_0, memb_nil (by omega)])]; rfl) | ((first | (rw [class_none hc1 (by rw [← hi0_0]; exact memb_1 (by omega) hi0_1 (by assumption))]) | (rw [class_none hc1 (by rw [← hi0_0]; exact memb_2 (by omega) hi0_1 (by assumption) (by assumption) (by omega))]) | (rw [class_none hc1 (by rw [← hi0_0]; exact memb_3 (by omega) hi0_1 (by assumption) (by assumption) (by omega) (by assumption))])); rfl)
            refine tr_pre (E' := [(2, none, vint .u64 (cSet (classS s))), (3, none, vstr (cRest (classS s))), (4, none, vbool ((classS s).isSome))]) (H' := []) (fun A_ W_ hS => sl_proj (ts := [2, 3, 4]) (by kernel_rfl) hS) ?_
            exact tr_return' (vc := []) (ds := [vint .u64 (cSet (classS s)), vstr (cRest (classS s)), vbool ((classS s).isSome)]) (by kernel_rfl) trivial (by kernel_rfl) (fun _ _ h => h)
          · skip
            refine tr_skip ?_
            refine tr_then (tr_seq ?_)
            refine tr_r (vc := [(0 : Int) ≤ 1, 1 ≤ (l.length : Int), (l.length : Int) ≤ (l.length : Int), ((l.drop 1).take (l.length - 1)) = (l.drop 1)]) (E' := [(2, none, vint .u64 (word64 S)), (3, none, vstr ((cutB s 93).2.1)), (5, none, vstr (l.drop 1)), (6, none, vint .i64 (sym ((l.getD 0 0).toNat : Int))), (7, none, vint .i64 (sym ((l.getD 0 0).toNat : Int)))]) (H' := []) [(1, vstr (l.drop 1))] [] [2, 3, 5, 6, 7] (by kernel_rfl) ?_ ?_
            · refine al ?_ (al ?_ (al ?_ (al ?_ (trivial))))
              · omega
              · omega
              · omega
              · exact cut_drop_str
            refine tr_then ?_
            refine tr_join (α := Int × (List UInt8)) (fun z : Int × (List UInt8) => (fun (t : Int) (l1 : List UInt8) => [(2, none, vint .u64 (word64 S)), (3, none, vstr ((cutB s 93).2.1)), (5, none, vstr l1), (6, none, vint .i64 (sym ((l.getD 0 0).toNat : Int))), (7, none, vint .i64 t)]) z.1 z.2) (fun z : Int × (List UInt8) => (fun (t : Int) (l1 : List UInt8) => []) z.1 z.2) (fun z : Int × (List UInt8) => (fun (t : Int) (l1 : List UInt8) => (memb k l S = memb (k - 1) l1 (range S (s0 l) (t + 1))) ∧ (l1.length < l.length) ∧ (t ≤ 36) ∧ (s0 l ≤ t)) z.1 z.2) ?_ ?_
            · intro z hz
              obtain ⟨t, l1⟩ := z
              have hz : (memb k l S = memb (k - 1) l1 (range S (s0 l) (t + 1))) ∧ (l1.length < l.length) ∧ (t ≤ 36) ∧ (s0 l ≤ t) := hz
              obtain ⟨hj19_0, hj19_1, hj19_2, hj19_3⟩ := hz
              refine tr_seq ?_
              refine tr_r (vc := []) (E' := [(2, none, vint .u64 (word64 S)), (3, none, vstr ((cutB s 93).2.1)), (5, none, vstr l1), (7, none, vint .i64 t), (8, none, vint .i64 (sym ((l.getD 0 0).toNat : Int)))]) (H' := []) [] [] [2, 3, 5, 7, 8] (by kernel_rfl) ?_ ?_
              · exact trivial
              refine tr_then ?_
              refine tr_block ?_
              refine tr_loop (α := Nat) (fun z : Nat => (fun (m : Nat) => [(2, none, vint .u64 (word64 (range S (s0 l) (s0 l + m)))), (3, none, vstr ((cutB s 93).2.1)), (5, none, vstr l1), (7, none, vint .i64 t), (8, none, vint .i64 (s0 l + m))]) z) (fun z : Nat => (fun (m : Nat) => []) z) (fun z : Nat => (fun (m : Nat) => (s0 l + m ≤ t + 1)) z) (fun z : Nat => (fun (m : Nat) => (t + 1 - s0 l - m).toNat) z) 0 ?_ ?_ ?_
              · show (s0 l + 0 ≤ t + 1)
                · omega
              · intro A_ W_ hS
                replace hS := sl_set (d := vint .u64 (word64 S)) 2 (vint .u64 (word64 (range S (s0 l) (s0 l + 0)))) (by kernel_rfl) (eqD_int (by rw [Int.add_zero, range_none])) hS
                replace hS := sl_set (d := vint .i64 (sym ((l.getD 0 0).toNat : Int))) 8 (vint .i64 (s0 l + 0)) (by kernel_rfl) (eqD_int (by omega)) hS
                exact sl_weak (vc := []) [] [2, 3, 5, 7, 8] (by kernel_rfl) trivial hS
              · intro z hz
                revert z; intro m hz
                have hz : (s0 l + m ≤ t + 1) := hz
                have hi1_0 := hz
                refine tr_seq ?_
                refine tr_seq ?_
                refine tr_r (vc := []) (E' := [(2, none, vint .u64 (word64 (range S (s0 l) (s0 l + m)))), (3, none, vstr ((cutB s 93).2.1)), (5, none, vstr l1), (7, none, vint .i64 t), (8, none, vint .i64 (s0 l + m)), (69, none, vbool (decide ((s0 l + m) ≤ t)))]) (H' := []) [] [] [2, 3, 5, 7, 8, 69] (by kernel_rfl) ?_ ?_
                · exact trivial
                refine tr_then ?_
                refine tr_condP (decide ((s0 l + m) ≤ t)) ((s0 l + m) ≤ t) (by simp) (by kernel_rfl) (fun hc4 => ?_) (fun hc4 => ?_)
                · skip
                  refine tr_skip ?_
                  refine tr_then (tr_seq ?_)
                  refine tr_block ?_
                  refine tr_r (vc := [(0 : Int) ≤ (s0 l + m)]) (E' := [(2, none, vint .u64 (bitsOf .or .u64 (word64 (range S (s0 l) (s0 l + m))) (IntKind.wrap .u64 ((1 : Int) * 2 ^ min (s0 l + m).toNat (IntKind.bits .u64))))), (3, none, vstr ((cutB s 93).2.1)), (5, none, vstr l1), (7, none, vint .i64 t), (8, none, vint .i64 (s0 l + m))]) (H' := []) [] [] [2, 3, 5, 7, 8] (by kernel_rfl) ?_ ?_
                  · refine al ?_ (trivial)
                    · omega
                  refine in_n ?_
                  refine tr_then ?_
                  refine tr_r (vc := [(IntKind.wrap .i64 ((s0 l + m) + 1)) = ((s0 l + m) + 1)]) (E' := [(2, none, vint .u64 (bitsOf .or .u64 (word64 (range S (s0 l) (s0 l + m))) (IntKind.wrap .u64 ((1 : Int) * 2 ^ min (s0 l + m).toNat (IntKind.bits .u64))))), (3, none, vstr ((cutB s 93).2.1)), (5, none, vstr l1), (7, none, vint .i64 t), (8, none, vint .i64 ((s0 l + m) + 1))]) (H' := []) [(1, vint .i64 ((s0 l + m) + 1))] [] [2, 3, 5, 7, 8] (by kernel_rfl) ?_ ?_
                  · refine al ?_ (trivial)
                    · exact wr64 (by omega) (by omega) (by omega)
                  refine lp_end (m + 1) ?_ ?_ ?_
                  · show (s0 l + (m + 1) ≤ t + 1)
                    · omega
                  · show (t + 1 - s0 l - (m + 1)).toNat < (t + 1 - s0 l - m).toNat
                    omega
                  · intro A_ W_ hS
                    replace hS := sl_set (d := vint .u64 (bitsOf .or .u64 (word64 (range S (s0 l) (s0 l + m))) (IntKind.wrap .u64 ((1 : Int) * 2 ^ min (s0 l + m).toNat (IntKind.bits .u64))))) 2 (vint .u64 (word64 (range S (s0 l) (s0 l + (m + 1))))) (by kernel_rfl) (eqD_int (by rw [← Int.add_assoc]; exact range_or _ _ _ (by omega) (by omega) (by omega))) hS
                    replace hS := sl_set (d := vint .i64 ((s0 l + m) + 1)) 8 (vint .i64 (s0 l + (m + 1))) (by kernel_rfl) (eqD_int (by omega)) hS
                    exact sl_weak (vc := []) [] [2, 3, 5, 7, 8] (by kernel_rfl) trivial hS
                · skip
                  refine tr_exit ?_
                  refine th_e ?_
                  refine th_e ?_
                  refine in_hit ?_
                  refine in_n ?_
                  refine lp_end ((k - 1), l1, (range S (s0 l) (s0 l + m))) ?_ ?_ ?_
                  · show (memb (k - 1) l1 (range S (s0 l) (s0 l + m)) = classM (cutB s 93).1) ∧ (l1.length ≤ (k - 1)) ∧ (l1.length ≤ s.length)
                    refine ⟨?_, ?_, ?_⟩
                    · rw [← hi0_0, hj19_0, show t + 1 = s0 l + m by omega]
                    · omega
                    · omega
                  · show l1.length < l.length
                    omega
                  · intro A_ W_ hS
                    exact sl_weak (vc := []) [] [2, 3, 5] (by kernel_rfl) trivial hS
            · skip
              refine tr_seq ?_
              refine tr_r (vc := [Pure Try.prog 58 [.s (l.drop 1), .s ([45] : List UInt8)] (vbool (hasPre (l.drop 1) ([45] : List UInt8)))]) (E' := [(2, none, vint .u64 (word64 S)), (3, none, vstr ((cutB s 93).2.1)), (5, none, vstr (l.drop 1)), (6, none, vint .i64 (sym ((l.getD 0 0).toNat : Int))), (7, none, vint .i64 (sym ((l.getD 0 0).toNat : Int))), (42, none, vbool (hasPre (l.drop 1) ([45] : List UInt8)))]) (H' := []) [] [(1, vbool (hasPre (l.drop 1) ([45] : List UInt8)))] [2, 3, 5, 6, 7, 42] (by kernel_rfl) ?_ ?_
              · refine al ?_ (trivial)
                · exact hasPrefix_ok _ _
              refine tr_then ?_
              refine tr_cond (hasPre (l.drop 1) ([45] : List UInt8)) (by kernel_rfl) (fun hc5 => ?_) (fun hc5 => ?_)
              · skip
                refine tr_seq ?_
                refine tr_seq ?_
                refine tr_r (vc := []) (E' := [(2, none, vint .u64 (word64 S)), (3, none, vstr ((cutB s 93).2.1)), (5, none, vstr (l.drop 1)), (6, none, vint .i64 (sym ((l.getD 0 0).toNat : Int))), (45, none, vbool (decide ((((l.drop 1).length : Nat) : Int) < 2)))]) (H' := []) [] [] [2, 3, 5, 6, 45] (by kernel_rfl) ?_ ?_
                · exact trivial
                refine tr_then ?_
                refine tr_condP (decide ((((l.drop 1).length : Nat) : Int) < 2)) ((((l.drop 1).length : Nat) : Int) < 2) (by simp) (by kernel_rfl) (fun hc6 => ?_) (fun hc6 => ?_)
                · skip
                  refine tr_seq ?_
                  refine tr_r (vc := []) (E' := [(2, none, vint .u64 0), (3, none, vstr ([] : List UInt8)), (4, none, vbool false)]) (H' := []) [] [] [2, 3, 4] (by kernel_rfl) ?_ ?_
                  · exact trivial
                  refine tr_then ?_
                  refine tr_pre (E' := (2, none, vint .u64 (cSet (classS s))) :: [(2, none, vint .u64 0), (3, none, vstr ([] : List UInt8)), (4, none, vbool false)]) (H' := []) (fun A_ W_ hS => sl_set_imp (d := vint .u64 0) 2 (vint .u64 (cSet (classS s))) (by kernel_rfl) ?_ hS) ?_
                  · refine imp_eq (congrArg (fun x => D.p ((eK .u64) x)) (a₁ := 0) (a₂ := (cSet (classS s))) ?_)
                    first | (rw [class_some hc1 (by rw [← hi0_0, memb_nil (by omega)])]; rfl) | ((first | (rw [class_none hc1 (by rw [← hi0_0]; exact memb_1 (by omega) hi0_1 (by assumption))]) | (rw [class_none hc1 (by rw [← hi0_0]; exact memb_2 (by omega) hi0_1 (by assumption) (by assumption) (by omega))]) | (rw [class_none hc1 (by rw [← hi0_0]; exact memb_3 (by omega) hi0_1 (by assumption) (by assumption) (by omega) (by assumption))])); rfl)
                  refine tr_pre (E' := [(2, none, vint .u64 (cSet (classS s))), (3, none, vstr ([] : List UInt8)), (4, none, vbool false)]) (H' := []) (fun A_ W_ hS => sl_proj (ts := [2, 3, 4]) (by kernel_rfl) hS) ?_
                  refine tr_pre (E' := (3, none, vstr (cRest (classS s))) :: [(2, none, vint .u64 (cSet (classS s))), (3, none, vstr ([] : List UInt8)), (4, none, vbool false)]) (H' := []) (fun A_ W_ hS => sl_set_imp (d := vstr ([] : List UInt8)) 3 (vstr (cRest (classS s))) (by kernel_rfl) ?_ hS) ?_
                  · refine imp_eq (congrArg (fun x => D.p (eS x)) (a₁ := ([] : List UInt8)) (a₂ := (cRest (classS s))) ?_)
                    first | (rw [class_some hc1 (by rw [← hi0_0, memb_nil (by omega)])]; rfl) | ((first | (rw [class_none hc1 (by rw [← hi0_0]; exact memb_1 (by omega) hi0_1 (by assumption))]) | (rw [class_none hc1 (by rw [← hi0_0]; exact memb_2 (by omega) hi0_1 (by assumption) (by assumption) (by omega))]) | (rw [class_none hc1 (by rw [← hi0_0]; exact memb_3 (by omega) hi0_1 (by assumption) (by assumption) (by omega) (by assumption))])); rfl)
                  refine tr_pre (E' := [(2, none, vint .u64 (cSet (classS s))), (3, none, vstr (cRest (classS s))), (4, none, vbool false)]) (H' := []) (fun A_ W_ hS => sl_proj (ts := [2, 3, 4]) (by kernel_rfl) hS) ?_
                  refine tr_pre (E' := (4, none, vbool ((classS s).isSome)) :: [(2, none, vint .u64 (cSet (classS s))), (3, none, vstr (cRest (classS s))), (4, none, vbool false)]) (H' := []) (fun A_ W_ hS => sl_set_imp (d := vbool false) 4 (vbool ((classS s).isSome)) (by kernel_rfl) ?_ hS) ?_
                  · refine imp_eq (congrArg (fun x => D.p (eB x)) (a₁ := false) (a₂ := ((classS s).isSome)) ?_)
                    first | (rw [class_some hc1 (by rw [← hi0_0, memb_nil (by omega)])]; rfl) | ((first | (rw [class_none hc1 (by rw [← hi0_0]; exact memb_1 (by omega) hi0_1 (by assumption))]) | (rw [class_none hc1 (by rw [← hi0_0]; exact memb_2 (by omega) hi0_1 (by assumption) (by assumption) (by omega))]) | (rw [class_none hc1 (by rw [← hi0_0]; exact memb_3 (by omega) hi0_1 (by assumption) (by assumption) (by omega) (by assumption))])); rfl)
                  refine tr_pre (E' := [(2, none, vint .u64 (cSet (classS s))), (3, none, vstr (cRest (classS s))), (4, none, vbool ((classS s).isSome))]) (H' := []) (fun A_ W_ hS => sl_proj (ts := [2, 3, 4]) (by kernel_rfl) hS) ?_
                  exact tr_return' (vc := []) (ds := [vint .u64 (cSet (classS s)), vstr (cRest (classS s)), vbool ((classS s).isSome)]) (by kernel_rfl) trivial (by kernel_rfl) (fun _ _ h => h)
                · skip
                  refine tr_skip ?_
                  refine tr_then (tr_seq ?_)
                  refine tr_r (vc := [(0 : Int) ≤ 1, 1 < ((l.drop 1).length : Int), Pure Try.prog 42 [.v (.int .u8 (((l.drop 1).getD 1 0).toNat : Int))] (vint .i64 (sym (((l.drop 1).getD 1 0).toNat : Int)))]) (E' := [(2, none, vint .u64 (word64 S)), (3, none, vstr ((cutB s 93).2.1)), (5, none, vstr (l.drop 1)), (6, none, vint .i64 (sym ((l.getD 0 0).toNat : Int))), (7, none, vint .i64 (sym (((l.drop 1).getD 1 0).toNat : Int)))]) (H' := []) [] [(2, vint .i64 (sym (((l.drop 1).getD 1 0).toNat : Int)))] [2, 3, 5, 6, 7] (by kernel_rfl) ?_ ?_
                  · refine al ?_ (al ?_ (al ?_ (trivial)))
                    · omega
                    · omega
                    · first | exact namesSymbolB_ok _ | exact namesSymbol_ok _ (by omega) (by omega)
                  refine tr_then (tr_seq ?_)
                  refine tr_r (vc := [(0 : Int) ≤ 2, 2 ≤ ((l.drop 1).length : Int), ((l.drop 1).length : Int) ≤ ((l.drop 1).length : Int), (((l.drop 1).drop 2).take (((l.drop 1).length) - 2)) = ((l.drop 1).drop 2)]) (E' := [(2, none, vint .u64 (word64 S)), (3, none, vstr ((cutB s 93).2.1)), (5, none, vstr ((l.drop 1).drop 2)), (6, none, vint .i64 (sym ((l.getD 0 0).toNat : Int))), (7, none, vint .i64 (sym (((l.drop 1).getD 1 0).toNat : Int)))]) (H' := []) [(1, vstr ((l.drop 1).drop 2))] [] [2, 3, 5, 6, 7] (by kernel_rfl) ?_ ?_
                  · refine al ?_ (al ?_ (al ?_ (al ?_ (trivial))))
                    · omega
                    · omega
                    · omega
                    · exact cut_drop_str
                  refine tr_then (tr_seq ?_)
                  refine tr_r (vc := [(!(decide ((sym (((l.drop 1).getD 1 0).toNat : Int)) < (sym ((l.getD 0 0).toNat : Int))))) = true → (!(decide ((sym (((l.drop 1).getD 1 0).toNat : Int)) < (sym ((l.getD 0 0).toNat : Int))))) = true, (!(decide ((sym (((l.drop 1).getD 1 0).toNat : Int)) < (sym ((l.getD 0 0).toNat : Int))))) = true → (!(decide ((sym (((l.drop 1).getD 1 0).toNat : Int)) < (sym ((l.getD 0 0).toNat : Int))))) = true, (!((decide ((sym (((l.drop 1).getD 1 0).toNat : Int)) < (sym ((l.getD 0 0).toNat : Int)))) || ((sym (((l.drop 1).getD 1 0).toNat : Int)) == 36))) = true → (!((decide ((sym (((l.drop 1).getD 1 0).toNat : Int)) < (sym ((l.getD 0 0).toNat : Int)))) || ((sym (((l.drop 1).getD 1 0).toNat : Int)) == 36))) = true, (!((decide ((sym (((l.drop 1).getD 1 0).toNat : Int)) < (sym ((l.getD 0 0).toNat : Int)))) || ((sym (((l.drop 1).getD 1 0).toNat : Int)) == 36))) = true → (!((decide ((sym (((l.drop 1).getD 1 0).toNat : Int)) < (sym ((l.getD 0 0).toNat : Int)))) || ((sym (((l.drop 1).getD 1 0).toNat : Int)) == 36))) = true, ((!((decide ((sym (((l.drop 1).getD 1 0).toNat : Int)) < (sym ((l.getD 0 0).toNat : Int)))) || ((sym (((l.drop 1).getD 1 0).toNat : Int)) == 36))) && (decide ((sym ((l.getD 0 0).toNat : Int)) < 26))) = true → ((!((decide ((sym (((l.drop 1).getD 1 0).toNat : Int)) < (sym ((l.getD 0 0).toNat : Int)))) || ((sym (((l.drop 1).getD 1 0).toNat : Int)) == 36))) && (decide ((sym ((l.getD 0 0).toNat : Int)) < 26))) = true, (!((decide ((sym (((l.drop 1).getD 1 0).toNat : Int)) < (sym ((l.getD 0 0).toNat : Int)))) || ((sym (((l.drop 1).getD 1 0).toNat : Int)) == 36))) = true → ((!((decide ((sym (((l.drop 1).getD 1 0).toNat : Int)) < (sym ((l.getD 0 0).toNat : Int)))) || ((sym (((l.drop 1).getD 1 0).toNat : Int)) == 36))) = true → (!((decide ((sym (((l.drop 1).getD 1 0).toNat : Int)) < (sym ((l.getD 0 0).toNat : Int)))) || ((sym (((l.drop 1).getD 1 0).toNat : Int)) == 36))) = true), ((!((decide ((sym (((l.drop 1).getD 1 0).toNat : Int)) < (sym ((l.getD 0 0).toNat : Int)))) || ((sym (((l.drop 1).getD 1 0).toNat : Int)) == 36))) && (decide ((sym ((l.getD 0 0).toNat : Int)) < 26))) = true → ((!((decide ((sym (((l.drop 1).getD 1 0).toNat : Int)) < (sym ((l.getD 0 0).toNat : Int)))) || ((sym (((l.drop 1).getD 1 0).toNat : Int)) == 36))) && (decide ((sym ((l.getD 0 0).toNat : Int)) < 26))) = true, (!((decide ((sym (((l.drop 1).getD 1 0).toNat : Int)) < (sym ((l.getD 0 0).toNat : Int)))) || ((sym (((l.drop 1).getD 1 0).toNat : Int)) == 36))) = true → (!((decide ((sym (((l.drop 1).getD 1 0).toNat : Int)) < (sym ((l.getD 0 0).toNat : Int)))) || ((sym (((l.drop 1).getD 1 0).toNat : Int)) == 36))) = true]) (E' := [(2, none, vint .u64 (word64 S)), (3, none, vstr ((cutB s 93).2.1)), (5, none, vstr ((l.drop 1).drop 2)), (6, none, vint .i64 (sym ((l.getD 0 0).toNat : Int))), (7, none, vint .i64 (sym (((l.drop 1).getD 1 0).toNat : Int))), (65, none, vbool (((decide ((sym (((l.drop 1).getD 1 0).toNat : Int)) < (sym ((l.getD 0 0).toNat : Int)))) || ((sym (((l.drop 1).getD 1 0).toNat : Int)) == 36)) || ((decide ((sym ((l.getD 0 0).toNat : Int)) < 26)) && (decide (26 ≤ (sym (((l.drop 1).getD 1 0).toNat : Int)))))))]) (H' := []) [] [] [2, 3, 5, 6, 7, 65] (by kernel_rfl) ?_ ?_
                  · refine al ?_ (al ?_ (al ?_ (al ?_ (al ?_ (al ?_ (al ?_ (al ?_ (trivial))))))))
                    · exact id
                    · exact id
                    · exact id
                    · exact id
                    · exact id
                    · intro _; exact id
                    · exact id
                    · exact id
                  refine tr_then ?_
                  refine tr_condP (((decide ((sym (((l.drop 1).getD 1 0).toNat : Int)) < (sym ((l.getD 0 0).toNat : Int)))) || ((sym (((l.drop 1).getD 1 0).toNat : Int)) == 36)) || ((decide ((sym ((l.getD 0 0).toNat : Int)) < 26)) && (decide (26 ≤ (sym (((l.drop 1).getD 1 0).toNat : Int)))))) ((((sym (((l.drop 1).getD 1 0).toNat : Int)) < (sym ((l.getD 0 0).toNat : Int))) ∨ ((sym (((l.drop 1).getD 1 0).toNat : Int)) = 36)) ∨ (((sym ((l.getD 0 0).toNat : Int)) < 26) ∧ (26 ≤ (sym (((l.drop 1).getD 1 0).toNat : Int))))) (by simp) (by kernel_rfl) (fun hc7 => ?_) (fun hc7 => ?_)
                  · skip
                    refine tr_seq ?_
                    refine tr_r (vc := []) (E' := [(2, none, vint .u64 0), (3, none, vstr ([] : List UInt8)), (4, none, vbool false)]) (H' := []) [] [] [2, 3, 4] (by kernel_rfl) ?_ ?_
                    · exact trivial
                    refine tr_then ?_
                    refine tr_pre (E' := (2, none, vint .u64 (cSet (classS s))) :: [(2, none, vint .u64 0), (3, none, vstr ([] : List UInt8)), (4, none, vbool false)]) (H' := []) (fun A_ W_ hS => sl_set_imp (d := vint .u64 0) 2 (vint .u64 (cSet (classS s))) (by kernel_rfl) ?_ hS) ?_
                    · refine imp_eq (congrArg (fun x => D.p ((eK .u64) x)) (a₁ := 0) (a₂ := (cSet (classS s))) ?_)
                      first | (rw [class_some hc1 (by rw [← hi0_0, memb_nil (by omega)])]; rfl) | ((first | (rw [class_none hc1 (by rw [← hi0_0]; exact memb_1 (by omega) hi0_1 (by assumption))]) | (rw [class_none hc1 (by rw [← hi0_0]; exact memb_2 (by omega) hi0_1 (by assumption) (by assumption) (by omega))]) | (rw [class_none hc1 (by rw [← hi0_0]; exact memb_3 (by omega) hi0_1 (by assumption) (by assumption) (by omega) (by assumption))])); rfl)
                    refine tr_pre (E' := [(2, none, vint .u64 (cSet (classS s))), (3, none, vstr ([] : List UInt8)), (4, none, vbool false)]) (H' := []) (fun A_ W_ hS => sl_proj (ts := [2, 3, 4]) (by kernel_rfl) hS) ?_
                    refine tr_pre (E' := (3, none, vstr (cRest (classS s))) :: [(2, none, vint .u64 (cSet (classS s))), (3, none, vstr ([] : List UInt8)), (4, none, vbool false)]) (H' := []) (fun A_ W_ hS => sl_set_imp (d := vstr ([] : List UInt8)) 3 (vstr (cRest (classS s))) (by kernel_rfl) ?_ hS) ?_
                    · refine imp_eq (congrArg (fun x => D.p (eS x)) (a₁ := ([] : List UInt8)) (a₂ := (cRest (classS s))) ?_)
                      first | (rw [class_some hc1 (by rw [← hi0_0, memb_nil (by omega)])]; rfl) | ((first | (rw [class_none hc1 (by rw [← hi0_0]; exact memb_1 (by omega) hi0_1 (by assumption))]) | (rw [class_none hc1 (by rw [← hi0_0]; exact memb_2 (by omega) hi0_1 (by assumption) (by assumption) (by omega))]) | (rw [class_none hc1 (by rw [← hi0_0]; exact memb_3 (by omega) hi0_1 (by assumption) (by assumption) (by omega) (by assumption))])); rfl)
                    refine tr_pre (E' := [(2, none, vint .u64 (cSet (classS s))), (3, none, vstr (cRest (classS s))), (4, none, vbool false)]) (H' := []) (fun A_ W_ hS => sl_proj (ts := [2, 3, 4]) (by kernel_rfl) hS) ?_
                    refine tr_pre (E' := (4, none, vbool ((classS s).isSome)) :: [(2, none, vint .u64 (cSet (classS s))), (3, none, vstr (cRest (classS s))), (4, none, vbool false)]) (H' := []) (fun A_ W_ hS => sl_set_imp (d := vbool false) 4 (vbool ((classS s).isSome)) (by kernel_rfl) ?_ hS) ?_
                    · refine imp_eq (congrArg (fun x => D.p (eB x)) (a₁ := false) (a₂ := ((classS s).isSome)) ?_)
                      first | (rw [class_some hc1 (by rw [← hi0_0, memb_nil (by omega)])]; rfl) | ((first | (rw [class_none hc1 (by rw [← hi0_0]; exact memb_1 (by omega) hi0_1 (by assumption))]) | (rw [class_none hc1 (by rw [← hi0_0]; exact memb_2 (by omega) hi0_1 (by assumption) (by assumption) (by omega))]) | (rw [class_none hc1 (by rw [← hi0_0]; exact memb_3 (by omega) hi0_1 (by assumption) (by assumption) (by omega) (by assumption))])); rfl)
                    refine tr_pre (E' := [(2, none, vint .u64 (cSet (classS s))), (3, none, vstr (cRest (classS s))), (4, none, vbool ((classS s).isSome))]) (H' := []) (fun A_ W_ hS => sl_proj (ts := [2, 3, 4]) (by kernel_rfl) hS) ?_
                    exact tr_return' (vc := []) (ds := [vint .u64 (cSet (classS s)), vstr (cRest (classS s)), vbool ((classS s).isSome)]) (by kernel_rfl) trivial (by kernel_rfl) (fun _ _ h => h)
                  · skip
                    refine tr_skip ?_
                    refine jn_end ((sym (((l.drop 1).getD 1 0).toNat : Int)), ((l.drop 1).drop 2)) ?_ ?_
                    · show (memb k l S = memb (k - 1) ((l.drop 1).drop 2) (range S (s0 l) ((sym (((l.drop 1).getD 1 0).toNat : Int)) + 1))) ∧ (((l.drop 1).drop 2).length < l.length) ∧ ((sym (((l.drop 1).getD 1 0).toNat : Int)) ≤ 36) ∧ (s0 l ≤ (sym (((l.drop 1).getD 1 0).toNat : Int)))
                      refine ⟨?_, ?_, ?_, ?_⟩
                      · first | exact memb_4 (by omega) hi0_1 (by assumption) (by assumption) (by omega) (by assumption) | exact memb_5 (by omega) hi0_1 (by assumption) (by simpa using hc5)
                      · simp only [List.length_drop]; omega
                      · omega
                      · omega
                    · intro A_ W_ hS
                      exact sl_weak (vc := []) [] [2, 3, 5, 6, 7] (by kernel_rfl) trivial hS
              · skip
                refine tr_skip ?_
                refine jn_end ((sym ((l.getD 0 0).toNat : Int)), (l.drop 1)) ?_ ?_
                · show (memb k l S = memb (k - 1) (l.drop 1) (range S (s0 l) ((sym ((l.getD 0 0).toNat : Int)) + 1))) ∧ ((l.drop 1).length < l.length) ∧ ((sym ((l.getD 0 0).toNat : Int)) ≤ 36) ∧ (s0 l ≤ (sym ((l.getD 0 0).toNat : Int)))
                  refine ⟨?_, ?_, ?_, ?_⟩
                  · first | exact memb_4 (by omega) hi0_1 (by assumption) (by assumption) (by omega) (by assumption) | exact memb_5 (by omega) hi0_1 (by assumption) (by simpa using hc5)
                  · simp only [List.length_drop]; omega
                  · omega
                  · omega
                · intro A_ W_ hS
                  exact sl_weak (vc := []) [] [2, 3, 5, 6, 7] (by kernel_rfl) trivial hS
        · skip
          refine tr_exit ?_
          refine th_e ?_
          refine th_e ?_
          refine in_hit ?_
          refine tr_then (tr_seq ?_)
          refine tr_r (vc := []) (E' := [(2, none, vint .u64 (word64 S)), (3, none, vstr ((cutB s 93).2.1)), (4, none, vbool true)]) (H' := []) [] [] [2, 3, 4] (by kernel_rfl) ?_ ?_
          · exact trivial
          refine tr_then ?_
          refine tr_pre (E' := (2, none, vint .u64 (cSet (classS s))) :: [(2, none, vint .u64 (word64 S)), (3, none, vstr ((cutB s 93).2.1)), (4, none, vbool true)]) (H' := []) (fun A_ W_ hS => sl_set_imp (d := vint .u64 (word64 S)) 2 (vint .u64 (cSet (classS s))) (by kernel_rfl) ?_ hS) ?_
          · refine imp_eq (congrArg (fun x => D.p ((eK .u64) x)) (a₁ := (word64 S)) (a₂ := (cSet (classS s))) ?_)
            first | (rw [class_some hc1 (by rw [← hi0_0, memb_nil (by omega)])]; rfl) | ((first | (rw [class_none hc1 (by rw [← hi0_0]; exact memb_1 (by omega) hi0_1 (by assumption))]) | (rw [class_none hc1 (by rw [← hi0_0]; exact memb_2 (by omega) hi0_1 (by assumption) (by assumption) (by omega))]) | (rw [class_none hc1 (by rw [← hi0_0]; exact memb_3 (by omega) hi0_1 (by assumption) (by assumption) (by omega) (by assumption))])); rfl)
          refine tr_pre (E' := [(2, none, vint .u64 (cSet (classS s))), (3, none, vstr ((cutB s 93).2.1)), (4, none, vbool true)]) (H' := []) (fun A_ W_ hS => sl_proj (ts := [2, 3, 4]) (by kernel_rfl) hS) ?_
          refine tr_pre (E' := (3, none, vstr (cRest (classS s))) :: [(2, none, vint .u64 (cSet (classS s))), (3, none, vstr ((cutB s 93).2.1)), (4, none, vbool true)]) (H' := []) (fun A_ W_ hS => sl_set_imp (d := vstr ((cutB s 93).2.1)) 3 (vstr (cRest (classS s))) (by kernel_rfl) ?_ hS) ?_
          · refine imp_eq (congrArg (fun x => D.p (eS x)) (a₁ := ((cutB s 93).2.1)) (a₂ := (cRest (classS s))) ?_)
            first | (rw [class_some hc1 (by rw [← hi0_0, memb_nil (by omega)])]; rfl) | ((first | (rw [class_none hc1 (by rw [← hi0_0]; exact memb_1 (by omega) hi0_1 (by assumption))]) | (rw [class_none hc1 (by rw [← hi0_0]; exact memb_2 (by omega) hi0_1 (by assumption) (by assumption) (by omega))]) | (rw [class_none hc1 (by rw [← hi0_0]; exact memb_3 (by omega) hi0_1 (by assumption) (by assumption) (by omega) (by assumption))])); rfl)
          refine tr_pre (E' := [(2, none, vint .u64 (cSet (classS s))), (3, none, vstr (cRest (classS s))), (4, none, vbool true)]) (H' := []) (fun A_ W_ hS => sl_proj (ts := [2, 3, 4]) (by kernel_rfl) hS) ?_
          refine tr_pre (E' := (4, none, vbool ((classS s).isSome)) :: [(2, none, vint .u64 (cSet (classS s))), (3, none, vstr (cRest (classS s))), (4, none, vbool true)]) (H' := []) (fun A_ W_ hS => sl_set_imp (d := vbool true) 4 (vbool ((classS s).isSome)) (by kernel_rfl) ?_ hS) ?_
          · refine imp_eq (congrArg (fun x => D.p (eB x)) (a₁ := true) (a₂ := ((classS s).isSome)) ?_)
            first | (rw [class_some hc1 (by rw [← hi0_0, memb_nil (by omega)])]; rfl) | ((first | (rw [class_none hc1 (by rw [← hi0_0]; exact memb_1 (by omega) hi0_1 (by assumption))]) | (rw [class_none hc1 (by rw [← hi0_0]; exact memb_2 (by omega) hi0_1 (by assumption) (by assumption) (by omega))]) | (rw [class_none hc1 (by rw [← hi0_0]; exact memb_3 (by omega) hi0_1 (by assumption) (by assumption) (by omega) (by assumption))])); rfl)
          refine tr_pre (E' := [(2, none, vint .u64 (cSet (classS s))), (3, none, vstr (cRest (classS s))), (4, none, vbool ((classS s).isSome))]) (H' := []) (fun A_ W_ hS => sl_proj (ts := [2, 3, 4]) (by kernel_rfl) hS) ?_
          exact tr_return' (vc := []) (ds := [vint .u64 (cSet (classS s)), vstr (cRest (classS s)), vbool ((classS s).isSome)]) (by kernel_rfl) trivial (by kernel_rfl) (fun _ _ h => h)
    · skip
      refine tr_seq ?_
      refine tr_r (vc := [(0 : Int) ≤ 0, 0 < (((cutB s 93).1).length : Int)]) (E' := [(2, none, vint .u64 0), (3, none, vstr ((cutB s 93).2.1)), (5, none, vstr ((cutB s 93).1)), (23, none, vbool (((((cutB s 93).1).getD 0 0).toNat : Int) == 45))]) (H' := []) [] [] [2, 3, 5, 23] (by kernel_rfl) ?_ ?_
      · refine al ?_ (al ?_ (trivial))
        · omega
        · have := List.length_pos_iff.2 (fun h => hc1 (.inr h)); omega
      refine tr_then ?_
      refine tr_condP (((((cutB s 93).1).getD 0 0).toNat : Int) == 45) (((((cutB s 93).1).getD 0 0).toNat : Int) = 45) (by simp) (by kernel_rfl) (fun hc8 => ?_) (fun hc8 => ?_)
      · skip
        refine tr_d (vc := [(0 : Int) ≤ 1, 1 ≤ (((cutB s 93).1).length : Int), (((cutB s 93).1).length : Int) ≤ (((cutB s 93).1).length : Int), ((((cutB s 93).1).drop 1).take ((((cutB s 93).1).length) - 1)) = (((cutB s 93).1).drop 1)]) (E' := [(2, none, vint .u64 68719476736), (3, none, vstr ((cutB s 93).2.1)), (5, none, vstr (((cutB s 93).1).drop 1))]) [(1, vstr (((cutB s 93).1).drop 1))] [] [2, 3, 5] (by kernel_rfl) (by kernel_rfl) (by kernel_rfl) ?_ ?_
        · refine al ?_ (al ?_ (al ?_ (al ?_ (trivial))))
          · omega
          · grind
          · omega
          · exact cut_drop_str
        refine jn_end ((((cutB s 93).1).drop 1), (upd noSet 36 true)) ?_ ?_
        · show (memb (cutB s 93).1.length (((cutB s 93).1).drop 1) (upd noSet 36 true) = classM (cutB s 93).1) ∧ ((((cutB s 93).1).drop 1).length ≤ (cutB s 93).1.length)
          refine ⟨?_, ?_⟩
          · first | (unfold classM; rw [if_pos (by omega)]) | (unfold classM; rw [if_neg (by omega)])
          · first | (simp; done) | (simp; omega) | omega
        · intro A_ W_ hS
          replace hS := sl_set (d := vint .u64 68719476736) 2 (vint .u64 (word64 (upd noSet 36 true))) (by kernel_rfl) (eqD_int (by first | exact word64_noSet.symm | exact word64_36.symm)) hS
          exact sl_weak (vc := []) [] [2, 3, 5] (by kernel_rfl) trivial hS
      · skip
        refine tr_skip ?_
        refine jn_end ((cutB s 93).1, noSet) ?_ ?_
        · show (memb (cutB s 93).1.length ((cutB s 93).1) noSet = classM (cutB s 93).1) ∧ (((cutB s 93).1).length ≤ (cutB s 93).1.length)
          refine ⟨?_, ?_⟩
          · first | (unfold classM; rw [if_pos (by omega)]) | (unfold classM; rw [if_neg (by omega)])
          · first | (simp; done) | (simp; omega) | omega
        · intro A_ W_ hS
          replace hS := sl_set (d := vint .u64 0) 2 (vint .u64 (word64 noSet)) (by kernel_rfl) (eqD_int (by first | exact word64_noSet.symm | exact word64_36.symm)) hS
          exact sl_weak (vc := []) [] [2, 3, 5] (by kernel_rfl) trivial hS
end Go.Proofs.Ytjnjmnfacaakfaa
namespace Go.Proofs.Ytjnjmnfacaakfaa
open Go.Eng
theorem shl_word (n : Int) (h0 : 0 ≤ n) (h1 : n < 64) : IntKind.wrap .u64 (1 * 2 ^ min n.toNat (IntKind.bits .u64)) = word64 (upd noSet n.toNat true) := by
  obtain ⟨i, rfl⟩ := Int.eq_ofNat_of_zero_le h0
  have hi : i < 64 := by omega
  show IntKind.wrap .u64 (1 * 2 ^ min ((i : Int)).toNat (IntKind.bits .u64)) = word64 (upd noSet i true)
  rw [shl_u64 hi]
  unfold word64
  rw [← wordN_or noSet hi]
  have : wordN noSet 64 = 0 := by decide +kernel
  rw [this, Nat.zero_or]
def pSet (s : List UInt8) : Option ((Nat → Bool) × List UInt8) := if ((s.getD 0 0).toNat : Int) = 91 then classS (s.drop 1) else if 0 ≤ sym (s.getD 0 0).toNat then some (upd noSet (sym (s.getD 0 0).toNat).toNat true, s.drop 1) else none
def moreB (b : UInt8) : Bool := decide (0 ≤ Lib.indexByte ([63, 43, 42] : List UInt8) (b.toNat : Int).toNat.toUInt8)
def pHas (x : Option ((Nat → Bool) × List UInt8)) : Prop := x.isSome = true ∧ cRest x ≠ [] ∧ moreB ((cRest x).getD 0 0) = true
instance (x : Option ((Nat → Bool) × List UInt8)) : Decidable (pHas x) := inferInstanceAs (Decidable (_ ∧ _))
def pMore (x : Option ((Nat → Bool) × List UInt8)) : Int := if pHas x then ((cRest x).getD 0 0).toNat else 0
def pRest (x : Option ((Nat → Bool) × List UInt8)) : List UInt8 := if pHas x then (cRest x).drop 1 else cRest x
theorem pSet_1 {s : List UInt8} (h : ((s.getD 0 0).toNat : Int) = 91) : pSet s = classS (s.drop 1) := if_pos h
theorem pSet_2 {s : List UInt8} (h : ¬ ((s.getD 0 0).toNat : Int) = 91) (h1 : 0 ≤ sym (s.getD 0 0).toNat) : pSet s = some (upd noSet (sym (s.getD 0 0).toNat).toNat true, s.drop 1) := by rw [pSet, if_neg h, if_pos h1]
theorem pSet_3 {s : List UInt8} (h : ¬ ((s.getD 0 0).toNat : Int) = 91) (h1 : ¬ 0 ≤ sym (s.getD 0 0).toNat) : pSet s = none := by rw [pSet, if_neg h, if_neg h1]
theorem pHas_of {x : Option ((Nat → Bool) × List UInt8)} : ((x.isSome = true ∧ ¬ cRest x = []) ∧ 0 ≤ Lib.indexByte ([63, 43, 42] : List UInt8) (((cRest x).getD 0 0).toNat : Int).toNat.toUInt8) ↔ pHas x := by
  unfold pHas moreB
  rw [decide_eq_true_eq, and_assoc]
theorem piece_ok (s : List UInt8) (hb0 : s.length < 4611686018427387904) (hb1 : 0 < s.length) : Pure Try.prog 47 [.s s] (.tup [vint .u64 (cSet (pSet s)), vint .u8 (pMore (pSet s)), vstr (pRest (pSet s)), vbool ((pSet s).isSome)]) := by
  refine pure_of (fn := Try.f47) Try.func47 rfl rfl fun F_ W0_ => ?_
  refine tr_seq ?_
  refine tr_r (vc := []) (E' := [(0, none, vstr s), (2, none, vint .u64 0), (3, none, vint .u8 0), (4, none, vstr ([] : List UInt8)), (5, none, vbool false)]) (H' := []) [] [] [0, 2, 3, 4, 5] (by kernel_rfl) ?_ ?_
  · exact trivial
  refine tr_then ?_
  refine tr_join (α := Unit) (fun z : Unit => [(2, none, vint .u64 (cSet (pSet s))), (3, none, vint .u8 0), (4, none, vstr (cRest (pSet s))), (5, none, vbool ((pSet s).isSome))]) (fun z : Unit => []) (fun z : Unit => True) ?_ ?_
  · intro z hz
    refine tr_seq ?_
    refine tr_seq ?_
    refine tr_r (vc := [((pSet s).isSome) = true → ((pSet s).isSome) = true, ((pSet s).isSome) = true → ((pSet s).isSome) = true, (((pSet s).isSome) && (!((cRest (pSet s)) == ([] : List UInt8)))) = true → (((pSet s).isSome) && (!((cRest (pSet s)) == ([] : List UInt8)))) = true, (((pSet s).isSome) && (!((cRest (pSet s)) == ([] : List UInt8)))) = true → ((0 : Int) ≤ 0), (((pSet s).isSome) && (!((cRest (pSet s)) == ([] : List UInt8)))) = true → (0 < ((cRest (pSet s)).length : Int)), (((pSet s).isSome) && (!((cRest (pSet s)) == ([] : List UInt8)))) = true → (((pSet s).isSome) && (!((cRest (pSet s)) == ([] : List UInt8)))) = true, (((pSet s).isSome) && (!((cRest (pSet s)) == ([] : List UInt8)))) = true → (Pure Try.prog 51 [.s ([63, 43, 42] : List UInt8), .v (.int .u8 (((cRest (pSet s)).getD 0 0).toNat : Int))] (vint .i64 (Lib.indexByte ([63, 43, 42] : List UInt8) (((cRest (pSet s)).getD 0 0).toNat : Int).toNat.toUInt8))), (((pSet s).isSome) && (!((cRest (pSet s)) == ([] : List UInt8)))) = true → (((pSet s).isSome) && (!((cRest (pSet s)) == ([] : List UInt8)))) = true, (((pSet s).isSome) && (!((cRest (pSet s)) == ([] : List UInt8)))) = true → (((pSet s).isSome) && (!((cRest (pSet s)) == ([] : List UInt8)))) = true]) (E' := [(2, none, vint .u64 (cSet (pSet s))), (3, none, vint .u8 0), (4, none, vstr (cRest (pSet s))), (5, none, vbool ((pSet s).isSome)), (36, none, vbool ((((pSet s).isSome) && (!((cRest (pSet s)) == ([] : List UInt8)))) && (decide (0 ≤ (Lib.indexByte ([63, 43, 42] : List UInt8) (((cRest (pSet s)).getD 0 0).toNat : Int).toNat.toUInt8)))))]) (H' := []) [] [(8, vint .i64 (Lib.indexByte ([63, 43, 42] : List UInt8) (((cRest (pSet s)).getD 0 0).toNat : Int).toNat.toUInt8))] [2, 3, 4, 5, 36] (by kernel_rfl) ?_ ?_
    · refine al ?_ (al ?_ (al ?_ (al ?_ (al ?_ (al ?_ (al ?_ (al ?_ (al ?_ (trivial)))))))))
      · exact id
      · exact id
      · exact id
      · first | omega | (simp; done) | (intro hg; simp at hg; have := List.length_pos_iff.2 hg.2; omega) | (intro hg; simp at hg; omega) | (simp_all; done) | grind
      · first | omega | (simp; done) | (intro hg; simp at hg; have := List.length_pos_iff.2 hg.2; omega) | (intro hg; simp at hg; omega) | (simp_all; done) | grind
      · exact id
      · intro _; exact indexByte_ok _ _
      · exact id
      · exact id
    refine tr_then ?_
    refine tr_condP ((((pSet s).isSome) && (!((cRest (pSet s)) == ([] : List UInt8)))) && (decide (0 ≤ (Lib.indexByte ([63, 43, 42] : List UInt8) (((cRest (pSet s)).getD 0 0).toNat : Int).toNat.toUInt8)))) (((((pSet s).isSome) = true) ∧ (¬ (cRest (pSet s)) = ([] : List UInt8))) ∧ (0 ≤ (Lib.indexByte ([63, 43, 42] : List UInt8) (((cRest (pSet s)).getD 0 0).toNat : Int).toNat.toUInt8))) (by simp) (by kernel_rfl) (fun hc1 => ?_) (fun hc1 => ?_)
    · skip
      refine tr_d (vc := [(0 : Int) ≤ 0, 0 < ((cRest (pSet s)).length : Int), (0 : Int) ≤ 1, 1 ≤ ((cRest (pSet s)).length : Int), ((cRest (pSet s)).length : Int) ≤ ((cRest (pSet s)).length : Int), (((cRest (pSet s)).drop 1).take (((cRest (pSet s)).length) - 1)) = ((cRest (pSet s)).drop 1)]) (E' := [(2, none, vint .u64 (cSet (pSet s))), (3, none, vint .u8 (((cRest (pSet s)).getD 0 0).toNat : Int)), (4, none, vstr ((cRest (pSet s)).drop 1)), (5, none, vbool ((pSet s).isSome))]) [(3, vstr ((cRest (pSet s)).drop 1))] [] [2, 3, 4, 5] (by kernel_rfl) (by kernel_rfl) (by kernel_rfl) ?_ ?_
      · refine al ?_ (al ?_ (al ?_ (al ?_ (al ?_ (al ?_ (trivial))))))
        · first | omega | (simp; done) | (intro hg; simp at hg; have := List.length_pos_iff.2 hg.2; omega) | (intro hg; simp at hg; omega) | (simp_all; done) | grind
        · first | omega | (simp; done) | (intro hg; simp at hg; have := List.length_pos_iff.2 hg.2; omega) | (intro hg; simp at hg; omega) | (simp_all; done) | grind
        · first | omega | (simp; done) | (intro hg; simp at hg; have := List.length_pos_iff.2 hg.2; omega) | (intro hg; simp at hg; omega) | (simp_all; done) | grind
        · first | omega | (simp; done) | (intro hg; simp at hg; have := List.length_pos_iff.2 hg.2; omega) | (intro hg; simp at hg; omega) | (simp_all; done) | grind
        · first | omega | (simp; done) | (intro hg; simp at hg; have := List.length_pos_iff.2 hg.2; omega) | (intro hg; simp at hg; omega) | (simp_all; done) | grind
        · exact cut_drop_str
      refine tr_then (tr_seq ?_)
      refine tr_r (vc := []) (E' := [(2, none, vint .u64 (cSet (pSet s))), (3, none, vint .u8 (((cRest (pSet s)).getD 0 0).toNat : Int)), (4, none, vstr ((cRest (pSet s)).drop 1)), (5, none, vbool ((pSet s).isSome))]) (H' := []) [] [] [2, 3, 4, 5] (by kernel_rfl) ?_ ?_
      · exact trivial
      refine tr_then ?_
      refine tr_pre (E' := (3, none, vint .u8 (pMore (pSet s))) :: [(2, none, vint .u64 (cSet (pSet s))), (3, none, vint .u8 (((cRest (pSet s)).getD 0 0).toNat : Int)), (4, none, vstr ((cRest (pSet s)).drop 1)), (5, none, vbool ((pSet s).isSome))]) (H' := []) (fun A_ W_ hS => sl_set_imp (d := vint .u8 (((cRest (pSet s)).getD 0 0).toNat : Int)) 3 (vint .u8 (pMore (pSet s))) (by kernel_rfl) ?_ hS) ?_
      · refine imp_eq (congrArg (fun x => D.p ((eK .u8) x)) (a₁ := (((cRest (pSet s)).getD 0 0).toNat : Int)) (a₂ := (pMore (pSet s))) ?_)
        first | (rw [pMore, if_pos (pHas_of.1 hc1)]) | (rw [pRest, if_pos (pHas_of.1 hc1)]) | (rw [pMore, if_neg (fun h => hc1 (pHas_of.2 h))]) | (rw [pRest, if_neg (fun h => hc1 (pHas_of.2 h))]) | rfl
      refine tr_pre (E' := [(2, none, vint .u64 (cSet (pSet s))), (3, none, vint .u8 (pMore (pSet s))), (4, none, vstr ((cRest (pSet s)).drop 1)), (5, none, vbool ((pSet s).isSome))]) (H' := []) (fun A_ W_ hS => sl_proj (ts := [2, 3, 4, 5]) (by kernel_rfl) hS) ?_
      refine tr_pre (E' := (4, none, vstr (pRest (pSet s))) :: [(2, none, vint .u64 (cSet (pSet s))), (3, none, vint .u8 (pMore (pSet s))), (4, none, vstr ((cRest (pSet s)).drop 1)), (5, none, vbool ((pSet s).isSome))]) (H' := []) (fun A_ W_ hS => sl_set_imp (d := vstr ((cRest (pSet s)).drop 1)) 4 (vstr (pRest (pSet s))) (by kernel_rfl) ?_ hS) ?_
      · refine imp_eq (congrArg (fun x => D.p (eS x)) (a₁ := ((cRest (pSet s)).drop 1)) (a₂ := (pRest (pSet s))) ?_)
        first | (rw [pMore, if_pos (pHas_of.1 hc1)]) | (rw [pRest, if_pos (pHas_of.1 hc1)]) | (rw [pMore, if_neg (fun h => hc1 (pHas_of.2 h))]) | (rw [pRest, if_neg (fun h => hc1 (pHas_of.2 h))]) | rfl
      refine tr_pre (E' := [(2, none, vint .u64 (cSet (pSet s))), (3, none, vint .u8 (pMore (pSet s))), (4, none, vstr (pRest (pSet s))), (5, none, vbool ((pSet s).isSome))]) (H' := []) (fun A_ W_ hS => sl_proj (ts := [2, 3, 4, 5]) (by kernel_rfl) hS) ?_
      exact tr_return' (vc := []) (ds := [vint .u64 (cSet (pSet s)), vint .u8 (pMore (pSet s)), vstr (pRest (pSet s)), vbool ((pSet s).isSome)]) (by kernel_rfl) trivial (by kernel_rfl) (fun _ _ h => h)
    · skip
      refine tr_skip ?_
      refine tr_then (tr_seq ?_)
      refine tr_r (vc := []) (E' := [(2, none, vint .u64 (cSet (pSet s))), (3, none, vint .u8 0), (4, none, vstr (cRest (pSet s))), (5, none, vbool ((pSet s).isSome))]) (H' := []) [] [] [2, 3, 4, 5] (by kernel_rfl) ?_ ?_
      · exact trivial
      refine tr_then ?_
      refine tr_pre (E' := (3, none, vint .u8 (pMore (pSet s))) :: [(2, none, vint .u64 (cSet (pSet s))), (3, none, vint .u8 0), (4, none, vstr (cRest (pSet s))), (5, none, vbool ((pSet s).isSome))]) (H' := []) (fun A_ W_ hS => sl_set_imp (d := vint .u8 0) 3 (vint .u8 (pMore (pSet s))) (by kernel_rfl) ?_ hS) ?_
      · refine imp_eq (congrArg (fun x => D.p ((eK .u8) x)) (a₁ := 0) (a₂ := (pMore (pSet s))) ?_)
        first | (rw [pMore, if_pos (pHas_of.1 hc1)]) | (rw [pRest, if_pos (pHas_of.1 hc1)]) | (rw [pMore, if_neg (fun h => hc1 (pHas_of.2 h))]) | (rw [pRest, if_neg (fun h => hc1 (pHas_of.2 h))]) | rfl
      refine tr_pre (E' := [(2, none, vint .u64 (cSet (pSet s))), (3, none, vint .u8 (pMore (pSet s))), (4, none, vstr (cRest (pSet s))), (5, none, vbool ((pSet s).isSome))]) (H' := []) (fun A_ W_ hS => sl_proj (ts := [2, 3, 4, 5]) (by kernel_rfl) hS) ?_
      refine tr_pre (E' := (4, none, vstr (pRest (pSet s))) :: [(2, none, vint .u64 (cSet (pSet s))), (3, none, vint .u8 (pMore (pSet s))), (4, none, vstr (cRest (pSet s))), (5, none, vbool ((pSet s).isSome))]) (H' := []) (fun A_ W_ hS => sl_set_imp (d := vstr (cRest (pSet s))) 4 (vstr (pRest (pSet s))) (by kernel_rfl) ?_ hS) ?_
      · refine imp_eq (congrArg (fun x => D.p (eS x)) (a₁ := (cRest (pSet s))) (a₂ := (pRest (pSet s))) ?_)
        first | (rw [pMore, if_pos (pHas_of.1 hc1)]) | (rw [pRest, if_pos (pHas_of.1 hc1)]) | (rw [pMore, if_neg (fun h => hc1 (pHas_of.2 h))]) | (rw [pRest, if_neg (fun h => hc1 (pHas_of.2 h))]) | rfl
      refine tr_pre (E' := [(2, none, vint .u64 (cSet (pSet s))), (3, none, vint .u8 (pMore (pSet s))), (4, none, vstr (pRest (pSet s))), (5, none, vbool ((pSet s).isSome))]) (H' := []) (fun A_ W_ hS => sl_proj (ts := [2, 3, 4, 5]) (by kernel_rfl) hS) ?_
      exact tr_return' (vc := []) (ds := [vint .u64 (cSet (pSet s)), vint .u8 (pMore (pSet s)), vstr (pRest (pSet s)), vbool ((pSet s).isSome)]) (by kernel_rfl) trivial (by kernel_rfl) (fun _ _ h => h)
  · skip
    refine tr_seq ?_
    refine tr_r (vc := [(0 : Int) ≤ 0, 0 < (s.length : Int)]) (E' := [(0, none, vstr s), (2, none, vint .u64 0), (3, none, vint .u8 0), (4, none, vstr ([] : List UInt8)), (5, none, vbool false), (9, none, vbool (((s.getD 0 0).toNat : Int) == 91))]) (H' := []) [] [] [0, 2, 3, 4, 5, 9] (by kernel_rfl) ?_ ?_
    · refine al ?_ (al ?_ (trivial))
      · first | omega | (simp; done) | (intro hg; simp at hg; have := List.length_pos_iff.2 hg.2; omega) | (intro hg; simp at hg; omega) | (simp_all; done) | grind
      · first | omega | (simp; done) | (intro hg; simp at hg; have := List.length_pos_iff.2 hg.2; omega) | (intro hg; simp at hg; omega) | (simp_all; done) | grind
    refine tr_then ?_
    refine tr_condP (((s.getD 0 0).toNat : Int) == 91) (((s.getD 0 0).toNat : Int) = 91) (by simp) (by kernel_rfl) (fun hc2 => ?_) (fun hc2 => ?_)
    · skip
      refine tr_r (vc := [(0 : Int) ≤ 1, 1 ≤ (s.length : Int), (s.length : Int) ≤ (s.length : Int), ((s.drop 1).take (s.length - 1)) = (s.drop 1), Pure Try.prog 55 [.s (s.drop 1)] (.tup [vint .u64 (cSet (classS (s.drop 1))), vstr (cRest (classS (s.drop 1))), vbool ((classS (s.drop 1)).isSome)])]) (E' := [(2, none, vint .u64 (cSet (classS (s.drop 1)))), (3, none, vint .u8 0), (4, none, vstr (cRest (classS (s.drop 1)))), (5, none, vbool ((classS (s.drop 1)).isSome))]) (H' := []) [(1, vstr (s.drop 1))] [(2, .tup [vint .u64 (cSet (classS (s.drop 1))), vstr (cRest (classS (s.drop 1))), vbool ((classS (s.drop 1)).isSome)])] [2, 3, 4, 5] (by kernel_rfl) ?_ ?_
      · refine al ?_ (al ?_ (al ?_ (al ?_ (al ?_ (trivial)))))
        · first | omega | (simp; done) | (intro hg; simp at hg; have := List.length_pos_iff.2 hg.2; omega) | (intro hg; simp at hg; omega) | (simp_all; done) | grind
        · first | omega | (simp; done) | (intro hg; simp at hg; have := List.length_pos_iff.2 hg.2; omega) | (intro hg; simp at hg; omega) | (simp_all; done) | grind
        · first | omega | (simp; done) | (intro hg; simp at hg; have := List.length_pos_iff.2 hg.2; omega) | (intro hg; simp at hg; omega) | (simp_all; done) | grind
        · exact cut_drop_str
        · exact class_ok _ (by first | (simp_all; omega) | (simp; omega))
      refine jn_end () ?_ ?_
      · exact trivial
      · intro A_ W_ hS
        replace hS := sl_set (d := vint .u64 (cSet (classS (s.drop 1)))) 2 (vint .u64 (cSet (pSet s))) (by kernel_rfl) (eqD_int (by first | (rw [pSet_1 hc2]; done) | (rw [pSet_2 hc2 hc3]; exact shl_word _ hc3 (by have := sym_le ((s.getD 0 0).toNat : Int); omega)) | (rw [pSet_3 hc2 hc3]; rfl))) hS
        replace hS := sl_set (d := vstr (cRest (classS (s.drop 1)))) 4 (vstr (cRest (pSet s))) (by kernel_rfl) (eqD_str (by first | (rw [pSet_1 hc2]; done) | (rw [pSet_2 hc2 hc3]; rfl) | (rw [pSet_3 hc2 hc3]; rfl))) hS
        replace hS := sl_set (d := vbool ((classS (s.drop 1)).isSome)) 5 (vbool ((pSet s).isSome)) (by kernel_rfl) (eqD_bool (by first | (rw [pSet_1 hc2]; done) | (rw [pSet_2 hc2 hc3]; rfl) | (rw [pSet_3 hc2 hc3]; rfl))) hS
        exact sl_weak (vc := []) [] [2, 3, 4, 5] (by kernel_rfl) trivial hS
    · skip
      refine tr_seq ?_
      refine tr_r (vc := [(0 : Int) ≤ 0, 0 < (s.length : Int), Pure Try.prog 42 [.v (.int .u8 ((s.getD 0 0).toNat : Int))] (vint .i64 (sym ((s.getD 0 0).toNat : Int)))]) (E' := [(0, none, vstr s), (2, none, vint .u64 0), (3, none, vint .u8 0), (4, none, vstr ([] : List UInt8)), (5, none, vbool false), (6, none, vint .i64 (sym ((s.getD 0 0).toNat : Int)))]) (H' := []) [] [(2, vint .i64 (sym ((s.getD 0 0).toNat : Int)))] [0, 2, 3, 4, 5, 6] (by kernel_rfl) ?_ ?_
      · refine al ?_ (al ?_ (al ?_ (trivial)))
        · first | omega | (simp; done) | (intro hg; simp at hg; have := List.length_pos_iff.2 hg.2; omega) | (intro hg; simp at hg; omega) | (simp_all; done) | grind
        · first | omega | (simp; done) | (intro hg; simp at hg; have := List.length_pos_iff.2 hg.2; omega) | (intro hg; simp at hg; omega) | (simp_all; done) | grind
        · first | exact namesSymbolB_ok _ | exact namesSymbol_ok _ (by omega) (by omega)
      refine tr_then (tr_seq ?_)
      refine tr_r (vc := []) (E' := [(0, none, vstr s), (2, none, vint .u64 0), (3, none, vint .u8 0), (4, none, vstr ([] : List UInt8)), (5, none, vbool false), (6, none, vint .i64 (sym ((s.getD 0 0).toNat : Int))), (21, none, vbool (decide (0 ≤ (sym ((s.getD 0 0).toNat : Int)))))]) (H' := []) [] [] [0, 2, 3, 4, 5, 6, 21] (by kernel_rfl) ?_ ?_
      · exact trivial
      refine tr_then ?_
      refine tr_condP (decide (0 ≤ (sym ((s.getD 0 0).toNat : Int)))) (0 ≤ (sym ((s.getD 0 0).toNat : Int))) (by simp) (by kernel_rfl) (fun hc3 => ?_) (fun hc3 => ?_)
      · skip
        refine tr_d (vc := [(0 : Int) ≤ (sym ((s.getD 0 0).toNat : Int)), (0 : Int) ≤ 1, 1 ≤ (s.length : Int), (s.length : Int) ≤ (s.length : Int), ((s.drop 1).take (s.length - 1)) = (s.drop 1)]) (E' := [(2, none, vint .u64 (IntKind.wrap .u64 ((1 : Int) * 2 ^ min (sym ((s.getD 0 0).toNat : Int)).toNat (IntKind.bits .u64)))), (3, none, vint .u8 0), (4, none, vstr (s.drop 1)), (5, none, vbool true)]) [(3, vstr (s.drop 1))] [] [2, 3, 4, 5] (by kernel_rfl) (by kernel_rfl) (by kernel_rfl) ?_ ?_
        · refine al ?_ (al ?_ (al ?_ (al ?_ (al ?_ (trivial)))))
          · first | omega | (simp; done) | (intro hg; simp at hg; have := List.length_pos_iff.2 hg.2; omega) | (intro hg; simp at hg; omega) | (simp_all; done) | grind
          · first | omega | (simp; done) | (intro hg; simp at hg; have := List.length_pos_iff.2 hg.2; omega) | (intro hg; simp at hg; omega) | (simp_all; done) | grind
          · first | omega | (simp; done) | (intro hg; simp at hg; have := List.length_pos_iff.2 hg.2; omega) | (intro hg; simp at hg; omega) | (simp_all; done) | grind
          · first | omega | (simp; done) | (intro hg; simp at hg; have := List.length_pos_iff.2 hg.2; omega) | (intro hg; simp at hg; omega) | (simp_all; done) | grind
          · exact cut_drop_str
        refine jn_end () ?_ ?_
        · exact trivial
        · intro A_ W_ hS
          replace hS := sl_set (d := vint .u64 (IntKind.wrap .u64 ((1 : Int) * 2 ^ min (sym ((s.getD 0 0).toNat : Int)).toNat (IntKind.bits .u64)))) 2 (vint .u64 (cSet (pSet s))) (by kernel_rfl) (eqD_int (by first | (rw [pSet_1 hc2]; done) | (rw [pSet_2 hc2 hc3]; exact shl_word _ hc3 (by have := sym_le ((s.getD 0 0).toNat : Int); omega)) | (rw [pSet_3 hc2 hc3]; rfl))) hS
          replace hS := sl_set (d := vstr (s.drop 1)) 4 (vstr (cRest (pSet s))) (by kernel_rfl) (eqD_str (by first | (rw [pSet_1 hc2]; done) | (rw [pSet_2 hc2 hc3]; rfl) | (rw [pSet_3 hc2 hc3]; rfl))) hS
          replace hS := sl_set (d := vbool true) 5 (vbool ((pSet s).isSome)) (by kernel_rfl) (eqD_bool (by first | (rw [pSet_1 hc2]; done) | (rw [pSet_2 hc2 hc3]; rfl) | (rw [pSet_3 hc2 hc3]; rfl))) hS
          exact sl_weak (vc := []) [] [2, 3, 4, 5] (by kernel_rfl) trivial hS
      · skip
        refine tr_skip ?_
        refine jn_end () ?_ ?_
        · exact trivial
        · intro A_ W_ hS
          replace hS := sl_set (d := vint .u64 0) 2 (vint .u64 (cSet (pSet s))) (by kernel_rfl) (eqD_int (by first | (rw [pSet_1 hc2]; done) | (rw [pSet_2 hc2 hc3]; exact shl_word _ hc3 (by have := sym_le ((s.getD 0 0).toNat : Int); omega)) | (rw [pSet_3 hc2 hc3]; rfl))) hS
          replace hS := sl_set (d := vstr ([] : List UInt8)) 4 (vstr (cRest (pSet s))) (by kernel_rfl) (eqD_str (by first | (rw [pSet_1 hc2]; done) | (rw [pSet_2 hc2 hc3]; rfl) | (rw [pSet_3 hc2 hc3]; rfl))) hS
          replace hS := sl_set (d := vbool false) 5 (vbool ((pSet s).isSome)) (by kernel_rfl) (eqD_bool (by first | (rw [pSet_1 hc2]; done) | (rw [pSet_2 hc2 hc3]; rfl) | (rw [pSet_3 hc2 hc3]; rfl))) hS
          exact sl_weak (vc := []) [] [2, 3, 4, 5] (by kernel_rfl) trivial hS
end Go.Proofs.Ytjnjmnfacaakfaa
namespace Go.Proofs.Ytjnjmnfacaakfaa
open Go.Eng
def endP : Place := { fEnd := true }
def parseM : Nat → List Place → List Int → List UInt8 → Option (List Place × List Int)
  | 0, _, _, _ => none
  | n + 1, ps, st, r => if r = [] ∨ ((r.getD 0 0).toNat : Int) = 124 then
      (if ((ps.length : Nat) : Int) = st.getD (((st.length : Nat) : Int) - 1).toNat 0 then none else
        if r = [] then some (ps ++ [endP], st) else parseM n (ps ++ [endP]) (st ++ [(((ps ++ [endP]).length : Nat) : Int)]) (r.drop 1))
    else if (pSet r).isSome = true then
      (if pMore (pSet r) = 43 then parseM n (ps ++ [({ fSet := cSet (pSet r) } : Place)] ++ [({ fSet := cSet (pSet r), fMore := 42 } : Place)]) st (pRest (pSet r))
        else parseM n (ps ++ [({ fSet := cSet (pSet r), fMore := pMore (pSet r) } : Place)]) st (pRest (pSet r)))
    else none
def parseS (s : List UInt8) : Option (List Place × List Int) := parseM (s.length + 1) [] [0] s
def plOf (x : Option (List Place × List Int)) : List Place := match x with
  | some y => y.1
  | none => []
def stOf (x : Option (List Place × List Int)) : List Int := match x with
  | some y => y.2
  | none => []
theorem cut2_le (s : List UInt8) (c : UInt8) : (cutB s c).2.1.length ≤ s.length := by
  unfold cutB
  split <;> simp
theorem class_le {s : List UInt8} : (cRest (classS s)).length ≤ s.length := by
  unfold classS
  split
  · simp [cRest]
  · cases classM (cutB s 93).1 with
    | none => simp [cRest]
    | some S => exact cut2_le s 93
theorem pSet_le {s : List UInt8} (h : 0 < s.length) : (cRest (pSet s)).length + 1 ≤ s.length := by
  unfold pSet
  split
  · have := class_le (s := s.drop 1)
    rw [List.length_drop] at this
    omega
  · split
    · simp [cRest]; omega
    · simp [cRest]; omega
theorem pRest_le {s : List UInt8} (h : 0 < s.length) : (pRest (pSet s)).length + 1 ≤ s.length := by
  have := pSet_le h
  unfold pRest
  split
  · rw [List.length_drop]; omega
  · exact this
theorem pRest_le2 {s : List UInt8} (h : 0 < s.length) (h1 : pMore (pSet s) = 43) : (pRest (pSet s)).length + 2 ≤ s.length := by
  have := pSet_le h
  unfold pMore at h1
  split at h1
  · rename_i hp
    have := List.length_pos_iff.2 hp.2.1
    unfold pRest
    rw [if_pos hp, List.length_drop]; omega
  · omega
theorem parseM_1 {k : Nat} {ps : List Place} {st : List Int} {r : List UInt8} (hk : 0 < k) (h : r = [] ∨ ((r.getD 0 0).toNat : Int) = 124) (h1 : ((ps.length : Nat) : Int) = st.getD (((st.length : Nat) : Int) - 1).toNat 0) : parseM k ps st r = none := by
  obtain ⟨k, rfl⟩ : ∃ j, k = j + 1 := ⟨k - 1, by omega⟩
  rw [parseM, if_pos h, if_pos h1]
theorem parseM_2 {k : Nat} {ps : List Place} {st : List Int} {r : List UInt8} (hk : 0 < k) (h : r = [] ∨ ((r.getD 0 0).toNat : Int) = 124) (h1 : ¬ ((ps.length : Nat) : Int) = st.getD (((st.length : Nat) : Int) - 1).toNat 0) (h2 : r = []) : parseM k ps st r = some (ps ++ [endP], st) := by
  obtain ⟨k, rfl⟩ : ∃ j, k = j + 1 := ⟨k - 1, by omega⟩
  rw [parseM, if_pos h, if_neg h1, if_pos h2]
theorem parseM_3 {k : Nat} {ps : List Place} {st : List Int} {r : List UInt8} (hk : 0 < k) (h : r = [] ∨ ((r.getD 0 0).toNat : Int) = 124) (h1 : ¬ ((ps.length : Nat) : Int) = st.getD (((st.length : Nat) : Int) - 1).toNat 0) (h2 : ¬ r = []) : parseM k ps st r = parseM (k - 1) (ps ++ [endP]) (st ++ [(((ps ++ [endP]).length : Nat) : Int)]) (r.drop 1) := by
  obtain ⟨k, rfl⟩ : ∃ j, k = j + 1 := ⟨k - 1, by omega⟩
  rw [parseM, if_pos h, if_neg h1, if_neg h2]; rfl
theorem parseM_4 {k : Nat} {ps : List Place} {st : List Int} {r : List UInt8} (hk : 0 < k) (h : ¬ (r = [] ∨ ((r.getD 0 0).toNat : Int) = 124)) (h1 : (pSet r).isSome = false) : parseM k ps st r = none := by
  obtain ⟨k, rfl⟩ : ∃ j, k = j + 1 := ⟨k - 1, by omega⟩
  rw [parseM, if_neg h, if_neg (by rw [h1]; simp)]
theorem parseM_5 {k : Nat} {ps : List Place} {st : List Int} {r : List UInt8} (hk : 0 < k) (h : ¬ (r = [] ∨ ((r.getD 0 0).toNat : Int) = 124)) (h1 : ¬ (pSet r).isSome = false) (h2 : pMore (pSet r) = 43) : parseM k ps st r = parseM (k - 1) (ps ++ [({ fSet := cSet (pSet r) } : Place)] ++ [({ fSet := cSet (pSet r), fMore := 42 } : Place)]) st (pRest (pSet r)) := by
  obtain ⟨k, rfl⟩ : ∃ j, k = j + 1 := ⟨k - 1, by omega⟩
  rw [parseM, if_neg h, if_pos (eq_true_of_ne_false h1), if_pos h2]; rfl
theorem parseM_6 {k : Nat} {ps : List Place} {st : List Int} {r : List UInt8} (hk : 0 < k) (h : ¬ (r = [] ∨ ((r.getD 0 0).toNat : Int) = 124)) (h1 : ¬ (pSet r).isSome = false) (h2 : ¬ pMore (pSet r) = 43) : parseM k ps st r = parseM (k - 1) (ps ++ [({ fSet := cSet (pSet r), fMore := pMore (pSet r) } : Place)]) st (pRest (pSet r)) := by
  obtain ⟨k, rfl⟩ : ∃ j, k = j + 1 := ⟨k - 1, by omega⟩
  rw [parseM, if_neg h, if_pos (eq_true_of_ne_false h1), if_neg h2]; rfl
theorem parse_ok (s : List UInt8) (hb0 : s.length ≤ 64) : Pure Try.prog 31 [.s s] (.tup [.p ((eL ePlace 3 dPlace) (plOf (parseS s))), .p ((eL eI 1 0) (stOf (parseS s))), vbool ((parseS s).isSome)]) := by
  refine pure_of (fn := Try.f31) Try.func31 rfl rfl fun F_ W0_ => ?_
  refine tr_seq ?_
  refine tr_r (vc := []) (E' := [(0, none, vstr s), (2, none, .p (.v (.slice none 0 0)))]) (H' := []) [] [] [0, 2] (by kernel_rfl) ?_ ?_
  · exact trivial
  refine tr_then (tr_seq ?_)
  refine tr_r (vc := []) (E' := [(0, none, vstr s), (2, none, .p (.v (.slice none 0 0))), (3, none, .own 0)]) (H' := [.arr 3 1 1 (fun j => ([vint .i64 0] : List D).getD j default)]) [] [] [0, 2, 3] (by kernel_rfl) ?_ ?_
  · exact trivial
  refine nm_pre (E' := [(0, none, vstr s), (2, none, .p (.v (.slice none 0 0))), (3, none, .own 0)]) (H' := [oL 3 eI 1 0 ([0])]) (fun A_ W_ hS => sl_arr (n := 1) (n' := ([0]).length) (f := fun j => ([vint .i64 0] : List D).getD j default) 0 (fun i => .p (eI (([0]).getD i 0))) (by kernel_rfl) (rfl) (by exact lit_getD (e := eI) (d := 0) (l := [0])) hS) ?_
  refine tr_then (tr_seq ?_)
  refine tr_r (vc := []) (E' := [(2, none, .p (.v (.slice none 0 0))), (3, none, .own 0), (5, none, vstr s)]) (H' := [oL 3 eI 1 0 ([0])]) [] [] [2, 3, 5] (by kernel_rfl) ?_ ?_
  · exact trivial
  refine tr_then ?_
  refine tr_block ?_
  refine tr_loop (α := Nat × (List Place) × (List Int) × (List UInt8)) (fun z : Nat × (List Place) × (List Int) × (List UInt8) => (fun (k : Nat) (ps : List Place) (st : List Int) (r : List UInt8) => [(2, none, .own 1), (3, none, .own 0), (5, none, vstr r)]) z.1 z.2.1 z.2.2.1 z.2.2.2) (fun z : Nat × (List Place) × (List Int) × (List UInt8) => (fun (k : Nat) (ps : List Place) (st : List Int) (r : List UInt8) => [oL 3 eI 1 0 st, oL 73 ePlace 3 dPlace ps]) z.1 z.2.1 z.2.2.1 z.2.2.2) (fun z : Nat × (List Place) × (List Int) × (List UInt8) => (fun (k : Nat) (ps : List Place) (st : List Int) (r : List UInt8) => (parseM k ps st r = parseS s) ∧ (r.length < k) ∧ (ps.length + r.length ≤ s.length) ∧ (0 < st.length) ∧ (st.length + r.length ≤ s.length + 1)) z.1 z.2.1 z.2.2.1 z.2.2.2) (fun z : Nat × (List Place) × (List Int) × (List UInt8) => (fun (k : Nat) (ps : List Place) (st : List Int) (r : List UInt8) => r.length) z.1 z.2.1 z.2.2.1 z.2.2.2) ((s.length + 1), ([] : List Place), [0], s) ?_ ?_ ?_
  · show (parseM (s.length + 1) ([] : List Place) ([0]) s = parseS s) ∧ (s.length < (s.length + 1)) ∧ (([] : List Place).length + s.length ≤ s.length) ∧ (0 < ([0]).length) ∧ (([0]).length + s.length ≤ s.length + 1)
    refine ⟨?_, ?_, ?_, ?_, ?_⟩
    · rfl
    · omega
    · (simp; done)
    · (simp; done)
    · (simp_all; omega)
  · intro A_ W_ hS
    replace hS := sl_nil 2 73 3 (fun i => .p (ePlace (([] : List Place).getD i dPlace))) (by kernel_rfl) hS
    exact sl_weak (vc := [∀ i, i < ([0]).length → D.p (eI (([0]).getD i 0)) = .p (eI (([0]).getD i 0)), ∀ i, i < ([] : List Place).length → D.p (ePlace (([] : List Place).getD i dPlace)) = .p (ePlace (([] : List Place).getD i dPlace))]) [0, 1] [2, 3, 5] (by kernel_rfl) (al (fun _ _ => rfl) (al (fun _ _ => rfl) trivial)) hS
  · intro z hz
    obtain ⟨k, ps, st, r⟩ := z
    have hz : (parseM k ps st r = parseS s) ∧ (r.length < k) ∧ (ps.length + r.length ≤ s.length) ∧ (0 < st.length) ∧ (st.length + r.length ≤ s.length + 1) := hz
    obtain ⟨hi0_0, hi0_1, hi0_2, hi0_3, hi0_4⟩ := hz
    have hr := pRest_le (s := r)
    have hr2 := pRest_le2 (s := r)
    have hl : r = [] ∨ 0 < r.length := by cases r <;> simp
    refine tr_block ?_
    refine tr_seq ?_
    refine tr_r (vc := [(IntKind.wrap .i64 (((st.length : Nat) : Int) - 1)) = (((st.length : Nat) : Int) - 1), (0 : Int) ≤ (((st.length : Nat) : Int) - 1), (((st.length : Nat) : Int) - 1) < (st.length : Int), (((st.length : Nat) : Int) - 1).toNat < st.length]) (E' := [(2, none, .own 1), (3, none, .own 0), (5, none, vstr r), (6, none, vbool (((ps.length : Nat) : Int) == (st.getD ((((st.length : Nat) : Int) - 1).toNat) 0)))]) (H' := [oL 3 eI 1 0 st, oL 73 ePlace 3 dPlace ps]) [(5, vint .i64 (((st.length : Nat) : Int) - 1))] [] [2, 3, 5, 6] (by kernel_rfl) ?_ ?_
    · refine al ?_ (al ?_ (al ?_ (al ?_ (trivial))))
      · exact wr64 (by omega) (by omega) (by omega)
      · omega
      · omega
      · omega
    refine tr_then (tr_seq ?_)
    refine tr_seq ?_
    refine tr_r (vc := [(!(r == ([] : List UInt8))) = true → (!(r == ([] : List UInt8))) = true, (!(r == ([] : List UInt8))) = true → ((0 : Int) ≤ 0), (!(r == ([] : List UInt8))) = true → (0 < (r.length : Int)), (!(r == ([] : List UInt8))) = true → (!(r == ([] : List UInt8))) = true, (!(r == ([] : List UInt8))) = true → (!(r == ([] : List UInt8))) = true]) (E' := [(2, none, .own 1), (3, none, .own 0), (5, none, vstr r), (6, none, vbool (((ps.length : Nat) : Int) == (st.getD ((((st.length : Nat) : Int) - 1).toNat) 0))), (28, none, vbool ((r == ([] : List UInt8)) || (((r.getD 0 0).toNat : Int) == 124)))]) (H' := [oL 3 eI 1 0 st, oL 73 ePlace 3 dPlace ps]) [] [] [2, 3, 5, 6, 28] (by kernel_rfl) ?_ ?_
    · refine al ?_ (al ?_ (al ?_ (al ?_ (al ?_ (trivial)))))
      · exact id
      · omega
      · intro hg; simp at hg; have := List.length_pos_iff.2 hg; omega
      · exact id
      · exact id
    refine tr_then ?_
    refine tr_condP ((r == ([] : List UInt8)) || (((r.getD 0 0).toNat : Int) == 124)) ((r = ([] : List UInt8)) ∨ (((r.getD 0 0).toNat : Int) = 124)) (by simp) (by kernel_rfl) (fun hc1 => ?_) (fun hc1 => ?_)
    · skip
      refine tr_seq ?_
      refine tr_seq ?_
      refine tr_r (vc := []) (E' := [(2, none, .own 1), (3, none, .own 0), (5, none, vstr r), (29, none, vbool (((ps.length : Nat) : Int) == (st.getD ((((st.length : Nat) : Int) - 1).toNat) 0)))]) (H' := [oL 3 eI 1 0 st, oL 73 ePlace 3 dPlace ps]) [] [] [2, 3, 5, 29] (by kernel_rfl) ?_ ?_
      · exact trivial
      refine tr_then ?_
      refine tr_condP (((ps.length : Nat) : Int) == (st.getD ((((st.length : Nat) : Int) - 1).toNat) 0)) (((ps.length : Nat) : Int) = (st.getD ((((st.length : Nat) : Int) - 1).toNat) 0)) (by simp) (by kernel_rfl) (fun hc2 => ?_) (fun hc2 => ?_)
      · skip
        refine tr_seq ?_
        refine tr_r (vc := []) (E' := [(2, none, .p (.v (.slice none 0 0))), (3, none, .p (.v (.slice none 0 0))), (4, none, vbool false)]) (H' := [oL 3 eI 1 0 st, oL 73 ePlace 3 dPlace ps]) [] [] [2, 3, 4] (by kernel_rfl) ?_ ?_
        · exact trivial
        refine tr_then ?_
        refine tr_pre (E' := [(2, none, .p (.v (.slice none 0 0))), (3, none, .p (.v (.slice none 0 0))), (4, none, vbool false)]) (H' := []) (fun A_ W_ hS => sl_weak (vc := []) [] [2, 3, 4] (by kernel_rfl) trivial hS) ?_
        refine tr_pre (E' := (2, none, .p ((eL ePlace 3 dPlace) (plOf (parseS s)))) :: [(2, none, .p (.v (.slice none 0 0))), (3, none, .p (.v (.slice none 0 0))), (4, none, vbool false)]) (H' := []) (fun A_ W_ hS => sl_set_imp (d := .p (.v (.slice none 0 0))) 2 (.p ((eL ePlace 3 dPlace) (plOf (parseS s)))) (by kernel_rfl) ?_ hS) ?_
        · refine imp_nil (plOf (parseS s)) ?_
          rw [← hi0_0]; first | (rw [parseM_1 (by omega) hc1 hc2]; rfl) | (rw [parseM_2 (by omega) hc1 hc2 hc3]; rfl) | (rw [parseM_4 (by omega) hc1 hc4]; rfl)
        refine tr_pre (E' := [(2, none, .p ((eL ePlace 3 dPlace) (plOf (parseS s)))), (3, none, .p (.v (.slice none 0 0))), (4, none, vbool false)]) (H' := []) (fun A_ W_ hS => sl_proj (ts := [2, 3, 4]) (by kernel_rfl) hS) ?_
        refine tr_pre (E' := (3, none, .p ((eL eI 1 0) (stOf (parseS s)))) :: [(2, none, .p ((eL ePlace 3 dPlace) (plOf (parseS s)))), (3, none, .p (.v (.slice none 0 0))), (4, none, vbool false)]) (H' := []) (fun A_ W_ hS => sl_set_imp (d := .p (.v (.slice none 0 0))) 3 (.p ((eL eI 1 0) (stOf (parseS s)))) (by kernel_rfl) ?_ hS) ?_
        · refine imp_nil (stOf (parseS s)) ?_
          rw [← hi0_0]; first | (rw [parseM_1 (by omega) hc1 hc2]; rfl) | (rw [parseM_2 (by omega) hc1 hc2 hc3]; rfl) | (rw [parseM_4 (by omega) hc1 hc4]; rfl)
        refine tr_pre (E' := [(2, none, .p ((eL ePlace 3 dPlace) (plOf (parseS s)))), (3, none, .p ((eL eI 1 0) (stOf (parseS s)))), (4, none, vbool false)]) (H' := []) (fun A_ W_ hS => sl_proj (ts := [2, 3, 4]) (by kernel_rfl) hS) ?_
        refine tr_pre (E' := (4, none, vbool ((parseS s).isSome)) :: [(2, none, .p ((eL ePlace 3 dPlace) (plOf (parseS s)))), (3, none, .p ((eL eI 1 0) (stOf (parseS s)))), (4, none, vbool false)]) (H' := []) (fun A_ W_ hS => sl_set_imp (d := vbool false) 4 (vbool ((parseS s).isSome)) (by kernel_rfl) ?_ hS) ?_
        · refine imp_eq (congrArg (fun x => D.p (eB x)) (a₁ := false) (a₂ := ((parseS s).isSome)) ?_)
          rw [← hi0_0]; first | (rw [parseM_1 (by omega) hc1 hc2]; rfl) | (rw [parseM_2 (by omega) hc1 hc2 hc3]; rfl) | (rw [parseM_4 (by omega) hc1 hc4]; rfl)
        refine tr_pre (E' := [(2, none, .p ((eL ePlace 3 dPlace) (plOf (parseS s)))), (3, none, .p ((eL eI 1 0) (stOf (parseS s)))), (4, none, vbool ((parseS s).isSome))]) (H' := []) (fun A_ W_ hS => sl_proj (ts := [2, 3, 4]) (by kernel_rfl) hS) ?_
        exact tr_return' (vc := []) (ds := [.p ((eL ePlace 3 dPlace) (plOf (parseS s))), .p ((eL eI 1 0) (stOf (parseS s))), vbool ((parseS s).isSome)]) (by kernel_rfl) trivial (by kernel_rfl) (fun _ _ h => h)
      · skip
        refine tr_skip ?_
        refine tr_then (tr_seq ?_)
        refine tr_r (vc := [∀ j, j < 1 → ([.agg [.v (.int .u64 0), .v (.int .u8 0), .v (.bool true)]] : List PV).getD j default = (fun i => ePlace (([({ fSet := 0, fMore := 0, fEnd := true } : Place)]).getD i dPlace)) j, (ps.length + (([({ fSet := 0, fMore := 0, fEnd := true } : Place)]).length)) * 16 ≤ 140737488355328]) (E' := [(2, none, .own 2), (3, none, .own 0), (5, none, vstr r)]) (H' := [oL 3 eI 1 0 st, .dead, .arr 73 3 (ps.length + ([({ fSet := 0, fMore := 0, fEnd := true } : Place)]).length) (appF (fun i => .p (ePlace (ps.getD i dPlace))) ps.length (fun j => .p (ePlace (([({ fSet := 0, fMore := 0, fEnd := true } : Place)]).getD j dPlace))))]) [] [(2, .p ((eL ePlace 3 dPlace) ([({ fSet := 0, fMore := 0, fEnd := true } : Place)])))] [2, 3, 5] (by kernel_rfl) ?_ ?_
        · refine al ?_ (al ?_ (trivial))
          · exact lit_pv (e := ePlace) (d := dPlace) (l := [({ fSet := 0, fMore := 0, fEnd := true } : Place)])
          · (simp_all; omega)
        refine nm_pre (E' := [(2, none, .own 2), (3, none, .own 0), (5, none, vstr r)]) (H' := [oL 3 eI 1 0 st, .dead, oL 73 ePlace 3 dPlace (ps ++ ([({ fSet := 0, fMore := 0, fEnd := true } : Place)]))]) (fun A_ W_ hS => sl_arr (n := (ps.length + ([({ fSet := 0, fMore := 0, fEnd := true } : Place)]).length)) (n' := (ps ++ ([({ fSet := 0, fMore := 0, fEnd := true } : Place)])).length) (f := appF (fun i => .p (ePlace (ps.getD i dPlace))) ps.length (fun j => .p (ePlace (([({ fSet := 0, fMore := 0, fEnd := true } : Place)]).getD j dPlace)))) 2 (fun i => .p (ePlace ((ps ++ ([({ fSet := 0, fMore := 0, fEnd := true } : Place)])).getD i dPlace))) (by kernel_rfl) (by simp) (by first | exact appN | exact nilN | exact app0 | exact nilV _) hS) ?_
        refine tr_then (tr_seq ?_)
        refine tr_seq ?_
        refine tr_r (vc := []) (E' := [(2, none, .own 2), (3, none, .own 0), (5, none, vstr r), (35, none, vbool (r == ([] : List UInt8)))]) (H' := [oL 3 eI 1 0 st, .dead, oL 73 ePlace 3 dPlace (ps ++ ([({ fSet := 0, fMore := 0, fEnd := true } : Place)]))]) [] [] [2, 3, 5, 35] (by kernel_rfl) ?_ ?_
        · exact trivial
        refine tr_then ?_
        refine tr_condP (r == ([] : List UInt8)) (r = ([] : List UInt8)) (by simp) (by kernel_rfl) (fun hc3 => ?_) (fun hc3 => ?_)
        · skip
          refine tr_seq ?_
          refine tr_r (vc := []) (E' := [(2, none, .own 2), (3, none, .own 0), (4, none, vbool true)]) (H' := [oL 3 eI 1 0 st, .dead, oL 73 ePlace 3 dPlace (ps ++ ([({ fSet := 0, fMore := 0, fEnd := true } : Place)]))]) [] [] [2, 3, 4] (by kernel_rfl) ?_ ?_
          · exact trivial
          refine tr_then ?_
          refine tr_pre (E' := [(2, none, .own 1), (3, none, .own 0), (4, none, vbool true)]) (H' := [oL 3 eI 1 0 st, oL 73 ePlace 3 dPlace (ps ++ ([({ fSet := 0, fMore := 0, fEnd := true } : Place)]))]) (fun A_ W_ hS => sl_weak (vc := [∀ i, i < st.length → D.p (eI (st.getD i 0)) = .p (eI (st.getD i 0)), ∀ i, i < (ps ++ ([({ fSet := 0, fMore := 0, fEnd := true } : Place)])).length → D.p (ePlace ((ps ++ ([({ fSet := 0, fMore := 0, fEnd := true } : Place)])).getD i dPlace)) = .p (ePlace ((ps ++ ([({ fSet := 0, fMore := 0, fEnd := true } : Place)])).getD i dPlace))]) [0, 2] [2, 3, 4] (by kernel_rfl) (al (fun _ _ => rfl) (al (fun _ _ => rfl) trivial)) hS) ?_
          refine tr_pre (E' := [(2, none, .own 1), (3, none, .p ((eL eI 1 0) st)), (4, none, vbool true)]) (H' := [.dead, oL 73 ePlace 3 dPlace (ps ++ ([({ fSet := 0, fMore := 0, fEnd := true } : Place)]))]) (fun A_ W_ hS => sl_freeze (vc := [∀ j, j < st.length → D.p (eI (st.getD j 0)) = .p ((fun j => eI (st.getD j 0)) j), ∀ i, i < (ps ++ ([({ fSet := 0, fMore := 0, fEnd := true } : Place)])).length → D.p (ePlace ((ps ++ ([({ fSet := 0, fMore := 0, fEnd := true } : Place)])).getD i dPlace)) = .p (ePlace ((ps ++ ([({ fSet := 0, fMore := 0, fEnd := true } : Place)])).getD i dPlace))]) 0 (fun j => eI (st.getD j 0)) (by kernel_rfl) (al (fun _ _ => rfl) (al (fun _ _ => rfl) trivial)) hS) ?_
          refine tr_pre (E' := [(2, none, .p ((eL ePlace 3 dPlace) (ps ++ ([({ fSet := 0, fMore := 0, fEnd := true } : Place)])))), (3, none, .p ((eL eI 1 0) st)), (4, none, vbool true)]) (H' := [.dead, .dead]) (fun A_ W_ hS => sl_freeze (vc := [∀ j, j < (ps ++ ([({ fSet := 0, fMore := 0, fEnd := true } : Place)])).length → D.p (ePlace ((ps ++ ([({ fSet := 0, fMore := 0, fEnd := true } : Place)])).getD j dPlace)) = .p ((fun j => ePlace ((ps ++ ([({ fSet := 0, fMore := 0, fEnd := true } : Place)])).getD j dPlace)) j)]) 1 (fun j => ePlace ((ps ++ ([({ fSet := 0, fMore := 0, fEnd := true } : Place)])).getD j dPlace)) (by kernel_rfl) (al (fun _ _ => rfl) trivial) hS) ?_
          refine tr_pre (E' := (2, none, .p ((eL ePlace 3 dPlace) (plOf (parseS s)))) :: [(2, none, .p ((eL ePlace 3 dPlace) (ps ++ ([({ fSet := 0, fMore := 0, fEnd := true } : Place)])))), (3, none, .p ((eL eI 1 0) st)), (4, none, vbool true)]) (H' := [.dead, .dead]) (fun A_ W_ hS => sl_set_imp (d := .p ((eL ePlace 3 dPlace) (ps ++ ([({ fSet := 0, fMore := 0, fEnd := true } : Place)])))) 2 (.p ((eL ePlace 3 dPlace) (plOf (parseS s)))) (by kernel_rfl) ?_ hS) ?_
          · refine imp_eq (congrArg (fun x => D.p ((eL ePlace 3 dPlace) x)) (a₁ := (ps ++ ([({ fSet := 0, fMore := 0, fEnd := true } : Place)]))) (a₂ := (plOf (parseS s))) ?_)
            rw [← hi0_0]; first | (rw [parseM_1 (by omega) hc1 hc2]; rfl) | (rw [parseM_2 (by omega) hc1 hc2 hc3]; rfl) | (rw [parseM_4 (by omega) hc1 hc4]; rfl)
          refine tr_pre (E' := [(2, none, .p ((eL ePlace 3 dPlace) (plOf (parseS s)))), (3, none, .p ((eL eI 1 0) st)), (4, none, vbool true)]) (H' := [.dead, .dead]) (fun A_ W_ hS => sl_proj (ts := [2, 3, 4]) (by kernel_rfl) hS) ?_
          refine tr_pre (E' := (3, none, .p ((eL eI 1 0) (stOf (parseS s)))) :: [(2, none, .p ((eL ePlace 3 dPlace) (plOf (parseS s)))), (3, none, .p ((eL eI 1 0) st)), (4, none, vbool true)]) (H' := [.dead, .dead]) (fun A_ W_ hS => sl_set_imp (d := .p ((eL eI 1 0) st)) 3 (.p ((eL eI 1 0) (stOf (parseS s)))) (by kernel_rfl) ?_ hS) ?_
          · refine imp_eq (congrArg (fun x => D.p ((eL eI 1 0) x)) (a₁ := st) (a₂ := (stOf (parseS s))) ?_)
            rw [← hi0_0]; first | (rw [parseM_1 (by omega) hc1 hc2]; rfl) | (rw [parseM_2 (by omega) hc1 hc2 hc3]; rfl) | (rw [parseM_4 (by omega) hc1 hc4]; rfl)
          refine tr_pre (E' := [(2, none, .p ((eL ePlace 3 dPlace) (plOf (parseS s)))), (3, none, .p ((eL eI 1 0) (stOf (parseS s)))), (4, none, vbool true)]) (H' := [.dead, .dead]) (fun A_ W_ hS => sl_proj (ts := [2, 3, 4]) (by kernel_rfl) hS) ?_
          refine tr_pre (E' := (4, none, vbool ((parseS s).isSome)) :: [(2, none, .p ((eL ePlace 3 dPlace) (plOf (parseS s)))), (3, none, .p ((eL eI 1 0) (stOf (parseS s)))), (4, none, vbool true)]) (H' := [.dead, .dead]) (fun A_ W_ hS => sl_set_imp (d := vbool true) 4 (vbool ((parseS s).isSome)) (by kernel_rfl) ?_ hS) ?_
          · refine imp_eq (congrArg (fun x => D.p (eB x)) (a₁ := true) (a₂ := ((parseS s).isSome)) ?_)
            rw [← hi0_0]; first | (rw [parseM_1 (by omega) hc1 hc2]; rfl) | (rw [parseM_2 (by omega) hc1 hc2 hc3]; rfl) | (rw [parseM_4 (by omega) hc1 hc4]; rfl)
          refine tr_pre (E' := [(2, none, .p ((eL ePlace 3 dPlace) (plOf (parseS s)))), (3, none, .p ((eL eI 1 0) (stOf (parseS s)))), (4, none, vbool ((parseS s).isSome))]) (H' := [.dead, .dead]) (fun A_ W_ hS => sl_proj (ts := [2, 3, 4]) (by kernel_rfl) hS) ?_
          exact tr_return' (vc := []) (ds := [.p ((eL ePlace 3 dPlace) (plOf (parseS s))), .p ((eL eI 1 0) (stOf (parseS s))), vbool ((parseS s).isSome)]) (by kernel_rfl) trivial (by kernel_rfl) (fun _ _ h => h)
        · skip
          refine tr_skip ?_
          refine tr_then (tr_seq ?_)
          refine tr_r (vc := [∀ j, j < 1 → ([.v (.int .i64 (((ps ++ ([({ fSet := 0, fMore := 0, fEnd := true } : Place)])).length : Nat) : Int))] : List PV).getD j default = (fun i => eI (([(((ps ++ ([({ fSet := 0, fMore := 0, fEnd := true } : Place)])).length : Nat) : Int)]).getD i 0)) j, (st.length + (([(((ps ++ ([({ fSet := 0, fMore := 0, fEnd := true } : Place)])).length : Nat) : Int)]).length)) * 8 ≤ 140737488355328]) (E' := [(2, none, .own 2), (3, none, .own 3), (5, none, vstr r)]) (H' := [.dead, .dead, oL 73 ePlace 3 dPlace (ps ++ ([({ fSet := 0, fMore := 0, fEnd := true } : Place)])), .arr 3 1 (st.length + ([(((ps ++ ([({ fSet := 0, fMore := 0, fEnd := true } : Place)])).length : Nat) : Int)]).length) (appF (fun i => .p (eI (st.getD i 0))) st.length (fun j => .p (eI (([(((ps ++ ([({ fSet := 0, fMore := 0, fEnd := true } : Place)])).length : Nat) : Int)]).getD j 0))))]) [] [(3, .p ((eL eI 1 0) ([(((ps ++ ([({ fSet := 0, fMore := 0, fEnd := true } : Place)])).length : Nat) : Int)])))] [2, 3, 5] (by kernel_rfl) ?_ ?_
          · refine al ?_ (al ?_ (trivial))
            · exact lit_pv (e := eI) (d := 0) (l := [(((ps ++ ([({ fSet := 0, fMore := 0, fEnd := true } : Place)])).length : Nat) : Int)])
            · (simp_all; omega)
          refine nm_pre (E' := [(2, none, .own 2), (3, none, .own 3), (5, none, vstr r)]) (H' := [.dead, .dead, oL 73 ePlace 3 dPlace (ps ++ ([({ fSet := 0, fMore := 0, fEnd := true } : Place)])), oL 3 eI 1 0 (st ++ ([(((ps ++ ([({ fSet := 0, fMore := 0, fEnd := true } : Place)])).length : Nat) : Int)]))]) (fun A_ W_ hS => sl_arr (n := (st.length + ([(((ps ++ ([({ fSet := 0, fMore := 0, fEnd := true } : Place)])).length : Nat) : Int)]).length)) (n' := (st ++ ([(((ps ++ ([({ fSet := 0, fMore := 0, fEnd := true } : Place)])).length : Nat) : Int)])).length) (f := appF (fun i => .p (eI (st.getD i 0))) st.length (fun j => .p (eI (([(((ps ++ ([({ fSet := 0, fMore := 0, fEnd := true } : Place)])).length : Nat) : Int)]).getD j 0)))) 3 (fun i => .p (eI ((st ++ ([(((ps ++ ([({ fSet := 0, fMore := 0, fEnd := true } : Place)])).length : Nat) : Int)])).getD i 0))) (by kernel_rfl) (by simp) (by first | exact appN | exact nilN | exact app0 | exact nilV _) hS) ?_
          refine tr_then (tr_seq ?_)
          refine tr_r (vc := [(0 : Int) ≤ 1, 1 ≤ (r.length : Int), (r.length : Int) ≤ (r.length : Int), ((r.drop 1).take (r.length - 1)) = (r.drop 1)]) (E' := [(2, none, .own 2), (3, none, .own 3), (5, none, vstr (r.drop 1))]) (H' := [.dead, .dead, oL 73 ePlace 3 dPlace (ps ++ ([({ fSet := 0, fMore := 0, fEnd := true } : Place)])), oL 3 eI 1 0 (st ++ ([(((ps ++ ([({ fSet := 0, fMore := 0, fEnd := true } : Place)])).length : Nat) : Int)]))]) [(1, vstr (r.drop 1))] [] [2, 3, 5] (by kernel_rfl) ?_ ?_
          · refine al ?_ (al ?_ (al ?_ (al ?_ (trivial))))
            · omega
            · have := List.length_pos_iff.2 hc3; omega
            · omega
            · exact cut_drop_str
          refine tr_then ?_
          refine tr_exit ?_
          refine th_e ?_
          refine in_hit ?_
          refine lp_end ((k - 1), (ps ++ ([({ fSet := 0, fMore := 0, fEnd := true } : Place)])), (st ++ ([(((ps ++ ([({ fSet := 0, fMore := 0, fEnd := true } : Place)])).length : Nat) : Int)])), (r.drop 1)) ?_ ?_ ?_
          · show (parseM (k - 1) (ps ++ ([({ fSet := 0, fMore := 0, fEnd := true } : Place)])) (st ++ ([(((ps ++ ([({ fSet := 0, fMore := 0, fEnd := true } : Place)])).length : Nat) : Int)])) (r.drop 1) = parseS s) ∧ ((r.drop 1).length < (k - 1)) ∧ ((ps ++ ([({ fSet := 0, fMore := 0, fEnd := true } : Place)])).length + (r.drop 1).length ≤ s.length) ∧ (0 < (st ++ ([(((ps ++ ([({ fSet := 0, fMore := 0, fEnd := true } : Place)])).length : Nat) : Int)])).length) ∧ ((st ++ ([(((ps ++ ([({ fSet := 0, fMore := 0, fEnd := true } : Place)])).length : Nat) : Int)])).length + (r.drop 1).length ≤ s.length + 1)
            refine ⟨?_, ?_, ?_, ?_, ?_⟩
            · rw [← hi0_0]; first | exact (parseM_3 (by omega) hc1 hc2 hc3).symm | exact (parseM_5 (by omega) hc1 hc4 hc5).symm | exact (parseM_6 (by omega) hc1 hc4 hc5).symm
            · have hp : 0 < r.length := List.length_pos_iff.2 (by first | exact hc3 | exact fun h => hc1 (.inl h)); have h1 := hr hp; (try have h43 := hr2 hp hc5); (try simp only [List.length_append, List.length_drop, List.length_cons, List.length_nil]); omega
            · have hp : 0 < r.length := List.length_pos_iff.2 (by first | exact hc3 | exact fun h => hc1 (.inl h)); have h1 := hr hp; (try have h43 := hr2 hp hc5); (try simp only [List.length_append, List.length_drop, List.length_cons, List.length_nil]); omega
            · have hp : 0 < r.length := List.length_pos_iff.2 (by first | exact hc3 | exact fun h => hc1 (.inl h)); have h1 := hr hp; (try have h43 := hr2 hp hc5); (try simp only [List.length_append, List.length_drop, List.length_cons, List.length_nil]); omega
            · have hp : 0 < r.length := List.length_pos_iff.2 (by first | exact hc3 | exact fun h => hc1 (.inl h)); have h1 := hr hp; (try have h43 := hr2 hp hc5); (try simp only [List.length_append, List.length_drop, List.length_cons, List.length_nil]); omega
          · show (r.drop 1).length < r.length
            have hp : 0 < r.length := List.length_pos_iff.2 (by first | exact hc3 | exact fun h => hc1 (.inl h)); have h1 := hr hp; (try have h43 := hr2 hp hc5); (try simp only [List.length_append, List.length_drop, List.length_cons, List.length_nil]); omega
          · intro A_ W_ hS
            exact sl_weak (vc := [∀ i, i < (st ++ ([(((ps ++ ([({ fSet := 0, fMore := 0, fEnd := true } : Place)])).length : Nat) : Int)])).length → D.p (eI ((st ++ ([(((ps ++ ([({ fSet := 0, fMore := 0, fEnd := true } : Place)])).length : Nat) : Int)])).getD i 0)) = .p (eI ((st ++ ([(((ps ++ ([({ fSet := 0, fMore := 0, fEnd := true } : Place)])).length : Nat) : Int)])).getD i 0)), ∀ i, i < (ps ++ ([({ fSet := 0, fMore := 0, fEnd := true } : Place)])).length → D.p (ePlace ((ps ++ ([({ fSet := 0, fMore := 0, fEnd := true } : Place)])).getD i dPlace)) = .p (ePlace ((ps ++ ([({ fSet := 0, fMore := 0, fEnd := true } : Place)])).getD i dPlace))]) [3, 2] [2, 3, 5] (by kernel_rfl) (al (fun _ _ => rfl) (al (fun _ _ => rfl) trivial)) hS
    · skip
      refine tr_skip ?_
      refine tr_then (tr_seq ?_)
      refine tr_r (vc := [Pure Try.prog 47 [.s r] (.tup [vint .u64 (cSet (pSet r)), vint .u8 (pMore (pSet r)), vstr (pRest (pSet r)), vbool ((pSet r).isSome)])]) (E' := [(2, none, .own 1), (3, none, .own 0), (7, none, vint .u64 (cSet (pSet r))), (8, none, vint .u8 (pMore (pSet r))), (9, none, vstr (pRest (pSet r))), (10, none, vbool ((pSet r).isSome))]) (H' := [oL 3 eI 1 0 st, oL 73 ePlace 3 dPlace ps]) [] [(1, .tup [vint .u64 (cSet (pSet r)), vint .u8 (pMore (pSet r)), vstr (pRest (pSet r)), vbool ((pSet r).isSome)])] [2, 3, 7, 8, 9, 10] (by kernel_rfl) ?_ ?_
      · refine al ?_ (trivial)
        · exact piece_ok _ (by first | omega | first | omega | (intro hg; simp at hg; omega) | (simp; done) | (simp_all; done) | (simp_all; omega) | grind) (by first | omega | first | omega | (intro hg; simp at hg; omega) | (simp; done) | (simp_all; done) | (simp_all; omega) | grind)
      refine tr_then (tr_seq ?_)
      refine tr_seq ?_
      refine tr_r (vc := []) (E' := [(2, none, .own 1), (3, none, .own 0), (7, none, vint .u64 (cSet (pSet r))), (8, none, vint .u8 (pMore (pSet r))), (9, none, vstr (pRest (pSet r))), (53, none, vbool (!((pSet r).isSome)))]) (H' := [oL 3 eI 1 0 st, oL 73 ePlace 3 dPlace ps]) [] [] [2, 3, 7, 8, 9, 53] (by kernel_rfl) ?_ ?_
      · exact trivial
      refine tr_then ?_
      refine tr_condP (!((pSet r).isSome)) (((pSet r).isSome) = false) (by simp) (by kernel_rfl) (fun hc4 => ?_) (fun hc4 => ?_)
      · skip
        refine tr_seq ?_
        refine tr_r (vc := []) (E' := [(2, none, .p (.v (.slice none 0 0))), (3, none, .p (.v (.slice none 0 0))), (4, none, vbool false)]) (H' := [oL 3 eI 1 0 st, oL 73 ePlace 3 dPlace ps]) [] [] [2, 3, 4] (by kernel_rfl) ?_ ?_
        · exact trivial
        refine tr_then ?_
        refine tr_pre (E' := [(2, none, .p (.v (.slice none 0 0))), (3, none, .p (.v (.slice none 0 0))), (4, none, vbool false)]) (H' := []) (fun A_ W_ hS => sl_weak (vc := []) [] [2, 3, 4] (by kernel_rfl) trivial hS) ?_
        refine tr_pre (E' := (2, none, .p ((eL ePlace 3 dPlace) (plOf (parseS s)))) :: [(2, none, .p (.v (.slice none 0 0))), (3, none, .p (.v (.slice none 0 0))), (4, none, vbool false)]) (H' := []) (fun A_ W_ hS => sl_set_imp (d := .p (.v (.slice none 0 0))) 2 (.p ((eL ePlace 3 dPlace) (plOf (parseS s)))) (by kernel_rfl) ?_ hS) ?_
        · refine imp_nil (plOf (parseS s)) ?_
          rw [← hi0_0]; first | (rw [parseM_1 (by omega) hc1 hc2]; rfl) | (rw [parseM_2 (by omega) hc1 hc2 hc3]; rfl) | (rw [parseM_4 (by omega) hc1 hc4]; rfl)
        refine tr_pre (E' := [(2, none, .p ((eL ePlace 3 dPlace) (plOf (parseS s)))), (3, none, .p (.v (.slice none 0 0))), (4, none, vbool false)]) (H' := []) (fun A_ W_ hS => sl_proj (ts := [2, 3, 4]) (by kernel_rfl) hS) ?_
        refine tr_pre (E' := (3, none, .p ((eL eI 1 0) (stOf (parseS s)))) :: [(2, none, .p ((eL ePlace 3 dPlace) (plOf (parseS s)))), (3, none, .p (.v (.slice none 0 0))), (4, none, vbool false)]) (H' := []) (fun A_ W_ hS => sl_set_imp (d := .p (.v (.slice none 0 0))) 3 (.p ((eL eI 1 0) (stOf (parseS s)))) (by kernel_rfl) ?_ hS) ?_
        · refine imp_nil (stOf (parseS s)) ?_
          rw [← hi0_0]; first | (rw [parseM_1 (by omega) hc1 hc2]; rfl) | (rw [parseM_2 (by omega) hc1 hc2 hc3]; rfl) | (rw [parseM_4 (by omega) hc1 hc4]; rfl)
        refine tr_pre (E' := [(2, none, .p ((eL ePlace 3 dPlace) (plOf (parseS s)))), (3, none, .p ((eL eI 1 0) (stOf (parseS s)))), (4, none, vbool false)]) (H' := []) (fun A_ W_ hS => sl_proj (ts := [2, 3, 4]) (by kernel_rfl) hS) ?_
        refine tr_pre (E' := (4, none, vbool ((parseS s).isSome)) :: [(2, none, .p ((eL ePlace 3 dPlace) (plOf (parseS s)))), (3, none, .p ((eL eI 1 0) (stOf (parseS s)))), (4, none, vbool false)]) (H' := []) (fun A_ W_ hS => sl_set_imp (d := vbool false) 4 (vbool ((parseS s).isSome)) (by kernel_rfl) ?_ hS) ?_
        · refine imp_eq (congrArg (fun x => D.p (eB x)) (a₁ := false) (a₂ := ((parseS s).isSome)) ?_)
          rw [← hi0_0]; first | (rw [parseM_1 (by omega) hc1 hc2]; rfl) | (rw [parseM_2 (by omega) hc1 hc2 hc3]; rfl) | (rw [parseM_4 (by omega) hc1 hc4]; rfl)
        refine tr_pre (E' := [(2, none, .p ((eL ePlace 3 dPlace) (plOf (parseS s)))), (3, none, .p ((eL eI 1 0) (stOf (parseS s)))), (4, none, vbool ((parseS s).isSome))]) (H' := []) (fun A_ W_ hS => sl_proj (ts := [2, 3, 4]) (by kernel_rfl) hS) ?_
        exact tr_return' (vc := []) (ds := [.p ((eL ePlace 3 dPlace) (plOf (parseS s))), .p ((eL eI 1 0) (stOf (parseS s))), vbool ((parseS s).isSome)]) (by kernel_rfl) trivial (by kernel_rfl) (fun _ _ h => h)
      · skip
        refine tr_skip ?_
        refine tr_then (tr_seq ?_)
        refine tr_r (vc := []) (E' := [(2, none, .own 1), (3, none, .own 0), (5, none, vstr (pRest (pSet r))), (7, none, vint .u64 (cSet (pSet r))), (8, none, vint .u8 (pMore (pSet r)))]) (H' := [oL 3 eI 1 0 st, oL 73 ePlace 3 dPlace ps]) [] [] [2, 3, 5, 7, 8] (by kernel_rfl) ?_ ?_
        · exact trivial
        refine tr_then (tr_seq ?_)
        refine tr_seq ?_
        refine tr_r (vc := []) (E' := [(2, none, .own 1), (3, none, .own 0), (5, none, vstr (pRest (pSet r))), (7, none, vint .u64 (cSet (pSet r))), (8, none, vint .u8 (pMore (pSet r))), (56, none, vbool ((pMore (pSet r)) == 43))]) (H' := [oL 3 eI 1 0 st, oL 73 ePlace 3 dPlace ps]) [] [] [2, 3, 5, 7, 8, 56] (by kernel_rfl) ?_ ?_
        · exact trivial
        refine tr_then ?_
        refine tr_condP ((pMore (pSet r)) == 43) ((pMore (pSet r)) = 43) (by simp) (by kernel_rfl) (fun hc5 => ?_) (fun hc5 => ?_)
        · skip
          refine tr_seq ?_
          refine tr_r (vc := [∀ j, j < 1 → ([.agg [.v (.int .u64 (cSet (pSet r))), .v (.int .u8 0), .v (.bool false)]] : List PV).getD j default = (fun i => ePlace (([({ fSet := (cSet (pSet r)), fMore := 0, fEnd := false } : Place)]).getD i dPlace)) j, (ps.length + (([({ fSet := (cSet (pSet r)), fMore := 0, fEnd := false } : Place)]).length)) * 16 ≤ 140737488355328]) (E' := [(2, none, .own 2), (3, none, .own 0), (5, none, vstr (pRest (pSet r))), (7, none, vint .u64 (cSet (pSet r)))]) (H' := [oL 3 eI 1 0 st, .dead, .arr 73 3 (ps.length + ([({ fSet := (cSet (pSet r)), fMore := 0, fEnd := false } : Place)]).length) (appF (fun i => .p (ePlace (ps.getD i dPlace))) ps.length (fun j => .p (ePlace (([({ fSet := (cSet (pSet r)), fMore := 0, fEnd := false } : Place)]).getD j dPlace))))]) [] [(3, .p ((eL ePlace 3 dPlace) ([({ fSet := (cSet (pSet r)), fMore := 0, fEnd := false } : Place)])))] [2, 3, 5, 7] (by kernel_rfl) ?_ ?_
          · refine al ?_ (al ?_ (trivial))
            · exact lit_pv (e := ePlace) (d := dPlace) (l := [({ fSet := (cSet (pSet r)), fMore := 0, fEnd := false } : Place)])
            · (simp_all; omega)
          refine nm_pre (E' := [(2, none, .own 2), (3, none, .own 0), (5, none, vstr (pRest (pSet r))), (7, none, vint .u64 (cSet (pSet r)))]) (H' := [oL 3 eI 1 0 st, .dead, oL 73 ePlace 3 dPlace (ps ++ ([({ fSet := (cSet (pSet r)), fMore := 0, fEnd := false } : Place)]))]) (fun A_ W_ hS => sl_arr (n := (ps.length + ([({ fSet := (cSet (pSet r)), fMore := 0, fEnd := false } : Place)]).length)) (n' := (ps ++ ([({ fSet := (cSet (pSet r)), fMore := 0, fEnd := false } : Place)])).length) (f := appF (fun i => .p (ePlace (ps.getD i dPlace))) ps.length (fun j => .p (ePlace (([({ fSet := (cSet (pSet r)), fMore := 0, fEnd := false } : Place)]).getD j dPlace)))) 2 (fun i => .p (ePlace ((ps ++ ([({ fSet := (cSet (pSet r)), fMore := 0, fEnd := false } : Place)])).getD i dPlace))) (by kernel_rfl) (by simp) (by first | exact appN | exact nilN | exact app0 | exact nilV _) hS) ?_
          refine tr_then ?_
          refine tr_r (vc := []) (E' := [(2, none, .own 2), (3, none, .own 0), (5, none, vstr (pRest (pSet r))), (7, none, vint .u64 (cSet (pSet r))), (8, none, vint .u8 42)]) (H' := [oL 3 eI 1 0 st, .dead, oL 73 ePlace 3 dPlace (ps ++ ([({ fSet := (cSet (pSet r)), fMore := 0, fEnd := false } : Place)]))]) [] [] [2, 3, 5, 7, 8] (by kernel_rfl) ?_ ?_
          · exact trivial
          refine tr_then ?_
          refine tr_r (vc := [∀ j, j < 1 → ([.agg [.v (.int .u64 (cSet (pSet r))), .v (.int .u8 42), .v (.bool false)]] : List PV).getD j default = (fun i => ePlace (([({ fSet := (cSet (pSet r)), fMore := 42, fEnd := false } : Place)]).getD i dPlace)) j, (((ps ++ ([({ fSet := (cSet (pSet r)), fMore := 0, fEnd := false } : Place)])).length) + (([({ fSet := (cSet (pSet r)), fMore := 42, fEnd := false } : Place)]).length)) * 16 ≤ 140737488355328]) (E' := [(2, none, .own 3), (3, none, .own 0), (5, none, vstr (pRest (pSet r)))]) (H' := [oL 3 eI 1 0 st, .dead, .dead, .arr 73 3 ((ps ++ ([({ fSet := (cSet (pSet r)), fMore := 0, fEnd := false } : Place)])).length + ([({ fSet := (cSet (pSet r)), fMore := 42, fEnd := false } : Place)]).length) (appF (fun i => .p (ePlace ((ps ++ ([({ fSet := (cSet (pSet r)), fMore := 0, fEnd := false } : Place)])).getD i dPlace))) ((ps ++ ([({ fSet := (cSet (pSet r)), fMore := 0, fEnd := false } : Place)])).length) (fun j => .p (ePlace (([({ fSet := (cSet (pSet r)), fMore := 42, fEnd := false } : Place)]).getD j dPlace))))]) [] [(4, .p ((eL ePlace 3 dPlace) ([({ fSet := (cSet (pSet r)), fMore := 42, fEnd := false } : Place)])))] [2, 3, 5] (by kernel_rfl) ?_ ?_
          · refine al ?_ (al ?_ (trivial))
            · exact lit_pv (e := ePlace) (d := dPlace) (l := [({ fSet := (cSet (pSet r)), fMore := 42, fEnd := false } : Place)])
            · (simp_all; omega)
          refine nm_pre (E' := [(2, none, .own 3), (3, none, .own 0), (5, none, vstr (pRest (pSet r)))]) (H' := [oL 3 eI 1 0 st, .dead, .dead, oL 73 ePlace 3 dPlace ((ps ++ ([({ fSet := (cSet (pSet r)), fMore := 0, fEnd := false } : Place)])) ++ ([({ fSet := (cSet (pSet r)), fMore := 42, fEnd := false } : Place)]))]) (fun A_ W_ hS => sl_arr (n := ((ps ++ ([({ fSet := (cSet (pSet r)), fMore := 0, fEnd := false } : Place)])).length + ([({ fSet := (cSet (pSet r)), fMore := 42, fEnd := false } : Place)]).length)) (n' := ((ps ++ ([({ fSet := (cSet (pSet r)), fMore := 0, fEnd := false } : Place)])) ++ ([({ fSet := (cSet (pSet r)), fMore := 42, fEnd := false } : Place)])).length) (f := appF (fun i => .p (ePlace ((ps ++ ([({ fSet := (cSet (pSet r)), fMore := 0, fEnd := false } : Place)])).getD i dPlace))) ((ps ++ ([({ fSet := (cSet (pSet r)), fMore := 0, fEnd := false } : Place)])).length) (fun j => .p (ePlace (([({ fSet := (cSet (pSet r)), fMore := 42, fEnd := false } : Place)]).getD j dPlace)))) 3 (fun i => .p (ePlace (((ps ++ ([({ fSet := (cSet (pSet r)), fMore := 0, fEnd := false } : Place)])) ++ ([({ fSet := (cSet (pSet r)), fMore := 42, fEnd := false } : Place)])).getD i dPlace))) (by kernel_rfl) (by simp) (by first | exact appN | exact nilN | exact app0 | exact nilV _) hS) ?_
          refine in_n ?_
          refine lp_end ((k - 1), ((ps ++ ([({ fSet := (cSet (pSet r)), fMore := 0, fEnd := false } : Place)])) ++ ([({ fSet := (cSet (pSet r)), fMore := 42, fEnd := false } : Place)])), st, (pRest (pSet r))) ?_ ?_ ?_
          · show (parseM (k - 1) ((ps ++ ([({ fSet := (cSet (pSet r)), fMore := 0, fEnd := false } : Place)])) ++ ([({ fSet := (cSet (pSet r)), fMore := 42, fEnd := false } : Place)])) st (pRest (pSet r)) = parseS s) ∧ ((pRest (pSet r)).length < (k - 1)) ∧ (((ps ++ ([({ fSet := (cSet (pSet r)), fMore := 0, fEnd := false } : Place)])) ++ ([({ fSet := (cSet (pSet r)), fMore := 42, fEnd := false } : Place)])).length + (pRest (pSet r)).length ≤ s.length) ∧ (0 < st.length) ∧ (st.length + (pRest (pSet r)).length ≤ s.length + 1)
            refine ⟨?_, ?_, ?_, ?_, ?_⟩
            · rw [← hi0_0]; first | exact (parseM_3 (by omega) hc1 hc2 hc3).symm | exact (parseM_5 (by omega) hc1 hc4 hc5).symm | exact (parseM_6 (by omega) hc1 hc4 hc5).symm
            · have hp : 0 < r.length := List.length_pos_iff.2 (by first | exact hc3 | exact fun h => hc1 (.inl h)); have h1 := hr hp; (try have h43 := hr2 hp hc5); (try simp only [List.length_append, List.length_drop, List.length_cons, List.length_nil]); omega
            · have hp : 0 < r.length := List.length_pos_iff.2 (by first | exact hc3 | exact fun h => hc1 (.inl h)); have h1 := hr hp; (try have h43 := hr2 hp hc5); (try simp only [List.length_append, List.length_drop, List.length_cons, List.length_nil]); omega
            · have hp : 0 < r.length := List.length_pos_iff.2 (by first | exact hc3 | exact fun h => hc1 (.inl h)); have h1 := hr hp; (try have h43 := hr2 hp hc5); (try simp only [List.length_append, List.length_drop, List.length_cons, List.length_nil]); omega
            · have hp : 0 < r.length := List.length_pos_iff.2 (by first | exact hc3 | exact fun h => hc1 (.inl h)); have h1 := hr hp; (try have h43 := hr2 hp hc5); (try simp only [List.length_append, List.length_drop, List.length_cons, List.length_nil]); omega
          · show (pRest (pSet r)).length < r.length
            have hp : 0 < r.length := List.length_pos_iff.2 (by first | exact hc3 | exact fun h => hc1 (.inl h)); have h1 := hr hp; (try have h43 := hr2 hp hc5); (try simp only [List.length_append, List.length_drop, List.length_cons, List.length_nil]); omega
          · intro A_ W_ hS
            exact sl_weak (vc := [∀ i, i < st.length → D.p (eI (st.getD i 0)) = .p (eI (st.getD i 0)), ∀ i, i < ((ps ++ ([({ fSet := (cSet (pSet r)), fMore := 0, fEnd := false } : Place)])) ++ ([({ fSet := (cSet (pSet r)), fMore := 42, fEnd := false } : Place)])).length → D.p (ePlace (((ps ++ ([({ fSet := (cSet (pSet r)), fMore := 0, fEnd := false } : Place)])) ++ ([({ fSet := (cSet (pSet r)), fMore := 42, fEnd := false } : Place)])).getD i dPlace)) = .p (ePlace (((ps ++ ([({ fSet := (cSet (pSet r)), fMore := 0, fEnd := false } : Place)])) ++ ([({ fSet := (cSet (pSet r)), fMore := 42, fEnd := false } : Place)])).getD i dPlace))]) [0, 3] [2, 3, 5] (by kernel_rfl) (al (fun _ _ => rfl) (al (fun _ _ => rfl) trivial)) hS
        · skip
          refine tr_skip ?_
          refine tr_then ?_
          refine tr_r (vc := [∀ j, j < 1 → ([.agg [.v (.int .u64 (cSet (pSet r))), .v (.int .u8 (pMore (pSet r))), .v (.bool false)]] : List PV).getD j default = (fun i => ePlace (([({ fSet := (cSet (pSet r)), fMore := (pMore (pSet r)), fEnd := false } : Place)]).getD i dPlace)) j, (ps.length + (([({ fSet := (cSet (pSet r)), fMore := (pMore (pSet r)), fEnd := false } : Place)]).length)) * 16 ≤ 140737488355328]) (E' := [(2, none, .own 2), (3, none, .own 0), (5, none, vstr (pRest (pSet r)))]) (H' := [oL 3 eI 1 0 st, .dead, .arr 73 3 (ps.length + ([({ fSet := (cSet (pSet r)), fMore := (pMore (pSet r)), fEnd := false } : Place)]).length) (appF (fun i => .p (ePlace (ps.getD i dPlace))) ps.length (fun j => .p (ePlace (([({ fSet := (cSet (pSet r)), fMore := (pMore (pSet r)), fEnd := false } : Place)]).getD j dPlace))))]) [] [(4, .p ((eL ePlace 3 dPlace) ([({ fSet := (cSet (pSet r)), fMore := (pMore (pSet r)), fEnd := false } : Place)])))] [2, 3, 5] (by kernel_rfl) ?_ ?_
          · refine al ?_ (al ?_ (trivial))
            · exact lit_pv (e := ePlace) (d := dPlace) (l := [({ fSet := (cSet (pSet r)), fMore := (pMore (pSet r)), fEnd := false } : Place)])
            · (simp_all; omega)
          refine nm_pre (E' := [(2, none, .own 2), (3, none, .own 0), (5, none, vstr (pRest (pSet r)))]) (H' := [oL 3 eI 1 0 st, .dead, oL 73 ePlace 3 dPlace (ps ++ ([({ fSet := (cSet (pSet r)), fMore := (pMore (pSet r)), fEnd := false } : Place)]))]) (fun A_ W_ hS => sl_arr (n := (ps.length + ([({ fSet := (cSet (pSet r)), fMore := (pMore (pSet r)), fEnd := false } : Place)]).length)) (n' := (ps ++ ([({ fSet := (cSet (pSet r)), fMore := (pMore (pSet r)), fEnd := false } : Place)])).length) (f := appF (fun i => .p (ePlace (ps.getD i dPlace))) ps.length (fun j => .p (ePlace (([({ fSet := (cSet (pSet r)), fMore := (pMore (pSet r)), fEnd := false } : Place)]).getD j dPlace)))) 2 (fun i => .p (ePlace ((ps ++ ([({ fSet := (cSet (pSet r)), fMore := (pMore (pSet r)), fEnd := false } : Place)])).getD i dPlace))) (by kernel_rfl) (by simp) (by first | exact appN | exact nilN | exact app0 | exact nilV _) hS) ?_
          refine in_n ?_
          refine lp_end ((k - 1), (ps ++ ([({ fSet := (cSet (pSet r)), fMore := (pMore (pSet r)), fEnd := false } : Place)])), st, (pRest (pSet r))) ?_ ?_ ?_
          · show (parseM (k - 1) (ps ++ ([({ fSet := (cSet (pSet r)), fMore := (pMore (pSet r)), fEnd := false } : Place)])) st (pRest (pSet r)) = parseS s) ∧ ((pRest (pSet r)).length < (k - 1)) ∧ ((ps ++ ([({ fSet := (cSet (pSet r)), fMore := (pMore (pSet r)), fEnd := false } : Place)])).length + (pRest (pSet r)).length ≤ s.length) ∧ (0 < st.length) ∧ (st.length + (pRest (pSet r)).length ≤ s.length + 1)
            refine ⟨?_, ?_, ?_, ?_, ?_⟩
            · rw [← hi0_0]; first | exact (parseM_3 (by omega) hc1 hc2 hc3).symm | exact (parseM_5 (by omega) hc1 hc4 hc5).symm | exact (parseM_6 (by omega) hc1 hc4 hc5).symm
            · have hp : 0 < r.length := List.length_pos_iff.2 (by first | exact hc3 | exact fun h => hc1 (.inl h)); have h1 := hr hp; (try have h43 := hr2 hp hc5); (try simp only [List.length_append, List.length_drop, List.length_cons, List.length_nil]); omega
            · have hp : 0 < r.length := List.length_pos_iff.2 (by first | exact hc3 | exact fun h => hc1 (.inl h)); have h1 := hr hp; (try have h43 := hr2 hp hc5); (try simp only [List.length_append, List.length_drop, List.length_cons, List.length_nil]); omega
            · have hp : 0 < r.length := List.length_pos_iff.2 (by first | exact hc3 | exact fun h => hc1 (.inl h)); have h1 := hr hp; (try have h43 := hr2 hp hc5); (try simp only [List.length_append, List.length_drop, List.length_cons, List.length_nil]); omega
            · have hp : 0 < r.length := List.length_pos_iff.2 (by first | exact hc3 | exact fun h => hc1 (.inl h)); have h1 := hr hp; (try have h43 := hr2 hp hc5); (try simp only [List.length_append, List.length_drop, List.length_cons, List.length_nil]); omega
          · show (pRest (pSet r)).length < r.length
            have hp : 0 < r.length := List.length_pos_iff.2 (by first | exact hc3 | exact fun h => hc1 (.inl h)); have h1 := hr hp; (try have h43 := hr2 hp hc5); (try simp only [List.length_append, List.length_drop, List.length_cons, List.length_nil]); omega
          · intro A_ W_ hS
            exact sl_weak (vc := [∀ i, i < st.length → D.p (eI (st.getD i 0)) = .p (eI (st.getD i 0)), ∀ i, i < (ps ++ ([({ fSet := (cSet (pSet r)), fMore := (pMore (pSet r)), fEnd := false } : Place)])).length → D.p (ePlace ((ps ++ ([({ fSet := (cSet (pSet r)), fMore := (pMore (pSet r)), fEnd := false } : Place)])).getD i dPlace)) = .p (ePlace ((ps ++ ([({ fSet := (cSet (pSet r)), fMore := (pMore (pSet r)), fEnd := false } : Place)])).getD i dPlace))]) [0, 2] [2, 3, 5] (by kernel_rfl) (al (fun _ _ => rfl) (al (fun _ _ => rfl) trivial)) hS
end Go.Proofs.Ytjnjmnfacaakfaa
namespace Go.Proofs.Ytjnjmnfacaakfaa
open Go.Eng
abbrev Pl := Nat → Bool
def keyS (S : Pl) : List Int := [setW S 0, setW S 1]
def idx (S : Pl) : List Pl → Nat → Option Nat
  | [], _ => none
  | T :: L, i => if keyS T = keyS S then some i else idx S L (i + 1)
/-- The map of the states' numbers, where the list of the states' keys is K. -/
def idxK (k : List Int) : List (List Int) → Nat → Option Nat
  | [], _ => none
  | j :: L, i => if j = k then some i else idxK k L (i + 1)
def mapK (K : List (List Int)) : List Int → Option PV := fun k => (idxK k K 0).map fun i => .v (.int .i64 (i : Int))
theorem idxK_app {k j : List Int} : ∀ {K : List (List Int)} {i : Nat}, idxK k K i = none ∧ idxK k (K ++ [j]) i = (if j = k then some (i + K.length) else none) ∨ idxK k K i ≠ none ∧ idxK k (K ++ [j]) i = idxK k K i
  | [], i => .inl ⟨rfl, by simp [idxK]⟩
  | a :: K, i => by
    simp only [List.cons_append, idxK]
    by_cases h : a = k
    · rw [if_pos h, if_pos h]; exact .inr ⟨by simp, rfl⟩
    · rw [if_neg h, if_neg h]
      rcases idxK_app (k := k) (j := j) (K := K) (i := i + 1) with ⟨h1, h2⟩ | ⟨h1, h2⟩
      · exact .inl ⟨h1, by rw [h2, List.length_cons]; split <;> simp; omega⟩
      · exact .inr ⟨h1, h2⟩
theorem mapK_push {K : List (List Int)} {k : List Int} (h : idxK k K 0 = none) : setMap (mapK K) k (.v (.int .i64 (K.length : Int))) = mapK (K ++ [k]) := by
  funext j
  by_cases hj : j = k
  · subst hj
    rw [setMap_at]
    unfold mapK
    rcases idxK_app (k := j) (j := j) (K := K) (i := 0) with ⟨h1, h2⟩ | ⟨h1, h2⟩
    · rw [h2]; simp
    · exact absurd h h1
  · rw [setMap_ne hj]
    unfold mapK
    rcases idxK_app (k := j) (j := k) (K := K) (i := 0) with ⟨h1, h2⟩ | ⟨h1, h2⟩
    · rw [h2, h1, if_neg (fun e => hj e.symm)]
    · rw [h2]
theorem idx_map {S : Pl} : ∀ {L : List Pl} {i : Nat}, idxK (keyS S) (L.map keyS) i = idx S L i
  | [], i => rfl
  | T :: L, i => by simp only [List.map_cons, idxK, idx, idx_map]
def acc (ps : List Place) (S : Pl) : Nat → Bool
  | 0 => false
  | i + 1 => acc ps S i || ((ps.getD i dPlace).fEnd && S i)
def acceptS (ps : List Place) (S : Pl) : Bool := acc ps S ps.length
/-- The states and the row behind the first c symbols. -/
def rowAt (ps : List Place) (S : Pl) (L : List Pl) : Nat → List Pl × List Int
  | 0 => (L, [])
  | c + 1 => if keyS (stepS ps S c) = [0, 0] then ((rowAt ps S L c).1, (rowAt ps S L c).2 ++ [-1]) else
    match idx (stepS ps S c) (rowAt ps S L c).1 0 with
    | some i => ((rowAt ps S L c).1, (rowAt ps S L c).2 ++ [(i : Int)])
    | none => ((rowAt ps S L c).1 ++ [stepS ps S c], (rowAt ps S L c).2 ++ [((rowAt ps S L c).1.length : Int)])
def rowL (ps : List Place) (S : Pl) (L : List Pl) (c : Nat) : List Int := (rowAt ps S L c).2 ++ List.replicate (37 - c) 0
def bfsM (ps : List Place) : Nat → List Pl → Nat → List Bool → List (List Int) → Option Lang
  | 0, _, _, _, _ => none
  | n + 1, L, k, A, N => if k < L.length then
      (if 16 < (rowAt ps (L.getD k noSet) L 37).1.length then none else bfsM ps n (rowAt ps (L.getD k noSet) L 37).1 (k + 1) (A ++ [acceptS ps (L.getD k noSet)]) (N ++ [(rowAt ps (L.getD k noSet) L 37).2]))
    else some { Accept := A, Next := N }
def startAt (st : List Int) : Nat → Pl
  | 0 => noSet
  | i + 1 => upd (startAt st i) (st.getD i 0).toNat true
def startS (x : Option (List Place × List Int)) : Pl := closedS (plOf x) (startAt (stOf x) (stOf x).length)
def langS (s : List UInt8) : Lang × Int := if 64 < s.length then (dLang, 2) else if (parseS s).isSome = false then (dLang, 5) else
  match bfsM (plOf (parseS s)) 17 [startS (parseS s)] 0 [] [] with
  | some l => (l, 0)
  | none => (dLang, 2)
theorem parse_bound2 : ∀ {k : Nat} {ps : List Place} {st : List Int} {r : List UInt8} {n : Nat} {y}, st.length + r.length ≤ n + 1 → parseM k ps st r = some y → y.2.length ≤ n + 1
  | 0, _, _, _, _, _, _, h => by cases h
  | k + 1, ps, st, r, n, y, h2, h => by
    unfold parseM at h
    split at h
    · split at h
      · cases h
      · split at h
        · cases h
          simp only; omega
        · rename_i hn
          have hp := List.length_pos_iff.2 hn
          exact parse_bound2 (by simp; omega) h
    · rename_i hr
      have hp : 0 < r.length := List.length_pos_iff.2 fun e => hr (.inl e)
      have q1 := pRest_le hp
      split at h
      · split at h
        · exact parse_bound2 (by omega) h
        · exact parse_bound2 (by omega) h
      · cases h
theorem parse_bound : ∀ {k : Nat} {ps : List Place} {st : List Int} {r : List UInt8} {n : Nat} {y}, (∀ i, i < st.length → 0 ≤ st.getD i 0 ∧ st.getD i 0 ≤ n) → ps.length + r.length ≤ n → parseM k ps st r = some y → (∀ i, i < y.2.length → 0 ≤ y.2.getD i 0 ∧ y.2.getD i 0 ≤ n) ∧ y.1.length ≤ n + 1
  | 0, _, _, _, _, _, _, _, h => by cases h
  | k + 1, ps, st, r, n, y, h1, h2, h => by
    unfold parseM at h
    split at h
    · rename_i hr
      split at h
      · cases h
      · split at h
        · cases h
          exact ⟨h1, by simp; omega⟩
        · rename_i hn
          have hp := List.length_pos_iff.2 hn
          refine parse_bound (fun i hi => ?_) ?_ h
          · rw [List.length_append] at hi
            simp only [List.length_cons, List.length_nil] at hi
            by_cases hlt : i < st.length
            · have := h1 i hlt
              simpa [List.getD_eq_getElem?_getD, List.getElem?_append_left hlt] using this
            · have : i = st.length := by omega
              subst this
              simp; omega
          · simp; omega
    · rename_i hr
      have hp : 0 < r.length := List.length_pos_iff.2 fun e => hr (.inl e)
      have q1 := pRest_le hp
      split at h
      · split at h
        · rename_i h43
          have q2 := pRest_le2 hp h43
          exact parse_bound h1 (by simp; omega) h
        · exact parse_bound h1 (by simp; omega) h
      · cases h
theorem parseS_bound {s : List UInt8} : (∀ i, i < (stOf (parseS s)).length → 0 ≤ (stOf (parseS s)).getD i 0 ∧ (stOf (parseS s)).getD i 0 ≤ s.length) ∧ (plOf (parseS s)).length ≤ s.length + 1 ∧ (stOf (parseS s)).length ≤ s.length + 1 := by
  cases h : parseS s with
  | none => exact ⟨fun i hi => by simp [stOf] at hi, by simp [plOf], by simp [stOf]⟩
  | some y =>
    have := parse_bound (n := s.length) (fun i hi => by
      have : i = 0 := by simpa using hi
      subst this
      simp) (by simp) h
    exact ⟨this.1, this.2, parse_bound2 (n := s.length) (st := [0]) (r := s) (by simp; omega) h⟩
def idxV (S : Pl) (L : List Pl) : Int := match idx S L 0 with
  | some i => i
  | none => 0
theorem eqD_refl (d : D) : eqD d d := by
  unfold eqD
  split
  · simp
  · rfl
  · rfl
  · rw [if_pos rfl]; exact ⟨rfl, fun _ _ => rfl⟩
  · rfl
theorem eqD_of {d d' : D} (h : d = d') : eqD d d' := h ▸ eqD_refl d
theorem look_v (S : Pl) (L : List Pl) : eqD (.p ((mapK (L.map keyS) (keyS S)).getD (.v (.int .i64 0)))) (vint .i64 (idxV S L)) := by
  refine eqD_of (congrArg D.p ?_)
  unfold mapK idxV
  rw [idx_map]
  cases idx S L 0 <;> rfl
theorem look_b (S : Pl) (L : List Pl) : (mapK (L.map keyS) (keyS S)).isSome = (idx S L 0).isSome := by
  unfold mapK
  rw [idx_map]
  cases idx S L 0 <;> rfl
theorem mapK_one (S : Pl) : setMap (fun _ => none) (keyS S) (.v (.int .i64 0)) = mapK ([S].map keyS) := mapK_push (K := []) rfl
theorem mapK_next {S : Pl} {L : List Pl} (h : idx S L 0 = none) : setMap (mapK (L.map keyS)) (keyS S) (.v (.int .i64 ((L.length : Nat) : Int))) = mapK ((L ++ [S]).map keyS) := by
  have := mapK_push (K := L.map keyS) (k := keyS S) (by rw [idx_map]; exact h)
  rw [List.length_map] at this
  rw [this, List.map_append]
  rfl
def atS (ps : List Place) (S : Pl) (L : List Pl) (c : Nat) : Int := if keyS (stepS ps S c) = [0, 0] then -1 else
    match idx (stepS ps S c) (rowAt ps S L c).1 0 with
    | some i => (i : Int)
    | none => ((rowAt ps S L c).1.length : Int)
section
variable {ps : List Place} {S : Pl} {L : List Pl} {c : Nat}
theorem rowAt_0 (h : keyS (stepS ps S c) = [0, 0]) : (rowAt ps S L (c + 1)).1 = (rowAt ps S L c).1 ∧ atS ps S L c = -1 := by
  rw [rowAt, atS, if_pos h, if_pos h]; exact ⟨rfl, rfl⟩
theorem rowAt_i (h : ¬ keyS (stepS ps S c) = [0, 0]) (h1 : (idx (stepS ps S c) (rowAt ps S L c).1 0).isSome = true) : (rowAt ps S L (c + 1)).1 = (rowAt ps S L c).1 ∧ atS ps S L c = idxV (stepS ps S c) (rowAt ps S L c).1 := by
  rw [rowAt, atS, idxV, if_neg h, if_neg h]
  cases hh : idx (stepS ps S c) (rowAt ps S L c).1 0 with
  | none => rw [hh] at h1; cases h1
  | some i => exact ⟨rfl, rfl⟩
theorem rowAt_n (h : ¬ keyS (stepS ps S c) = [0, 0]) (h1 : (idx (stepS ps S c) (rowAt ps S L c).1 0).isSome = false) : (rowAt ps S L (c + 1)).1 = (rowAt ps S L c).1 ++ [stepS ps S c] ∧ atS ps S L c = (rowAt ps S L c).1.length ∧ idx (stepS ps S c) (rowAt ps S L c).1 0 = none := by
  rw [rowAt, atS, if_neg h, if_neg h]
  cases hh : idx (stepS ps S c) (rowAt ps S L c).1 0 with
  | some i => rw [hh] at h1; cases h1
  | none => exact ⟨rfl, rfl, rfl⟩
theorem rowAt_row : (rowAt ps S L (c + 1)).2 = (rowAt ps S L c).2 ++ [atS ps S L c] := by
  rw [rowAt, atS]
  split
  · rfl
  · cases idx (stepS ps S c) (rowAt ps S L c).1 0 <;> rfl
theorem rowAt_len : (rowAt ps S L c).1.length ≤ L.length + c ∧ (rowAt ps S L c).2.length = c := by
  induction c with
  | zero => exact ⟨Nat.le_refl _, rfl⟩
  | succ c ih =>
    rw [rowAt_row, List.length_append, ih.2]
    refine ⟨?_, rfl⟩
    rw [rowAt]
    split
    · have := ih.1; simp only; omega
    · split
      · have := ih.1; simp only; omega
      · have := ih.1; simp only [List.length_append, List.length_cons, List.length_nil]; omega
theorem rowAt_get {k : Nat} (h : k < L.length) : L.length ≤ (rowAt ps S L c).1.length ∧ (rowAt ps S L c).1.getD k noSet = L.getD k noSet := by
  induction c with
  | zero => exact ⟨Nat.le_refl _, rfl⟩
  | succ c ih =>
    rw [rowAt]
    split
    · exact ih
    · split
      · exact ih
      · refine ⟨by simp only [List.length_append]; omega, ?_⟩
        simp only
        rw [← ih.2]
        simp only [List.getD_eq_getElem?_getD]
        rw [List.getElem?_append_left (by omega)]
theorem row_set (hc : c < 37) : (rowL ps S L c).set c (atS ps S L c) = rowL ps S L (c + 1) := by
  unfold rowL
  have h := (rowAt_len (ps := ps) (S := S) (L := L) (c := c)).2
  obtain ⟨m, hm⟩ : ∃ m, 37 - c = m + 1 := ⟨36 - c, by omega⟩
  rw [hm, show 37 - (c + 1) = m by omega, List.replicate_succ, List.set_append, if_neg (by omega), h, Nat.sub_self, List.set_cons_zero, rowAt_row, List.append_assoc]
  rfl
theorem rowL_37 : rowL ps S L 37 = (rowAt ps S L 37).2 := by simp [rowL]
theorem rowL_len (h : c ≤ 37) : (rowL ps S L c).length = 37 := by
  have := (rowAt_len (ps := ps) (S := S) (L := L) (c := c)).2
  simp [rowL, this]; omega
end
theorem bfs_step {ps : List Place} {n : Nat} {L : List Pl} {k : Nat} {A : List Bool} {N : List (List Int)} (hn : 0 < n) (h : k < L.length) (h1 : ¬ 16 < (rowAt ps (L.getD k noSet) L 37).1.length) : bfsM ps n L k A N = bfsM ps (n - 1) (rowAt ps (L.getD k noSet) L 37).1 (k + 1) (A ++ [acceptS ps (L.getD k noSet)]) (N ++ [(rowAt ps (L.getD k noSet) L 37).2]) := by
  obtain ⟨n, rfl⟩ : ∃ j, n = j + 1 := ⟨n - 1, by omega⟩
  rw [bfsM, if_pos h, if_neg h1]; rfl
theorem bfs_many {ps : List Place} {n : Nat} {L : List Pl} {k : Nat} {A : List Bool} {N : List (List Int)} (hn : 0 < n) (h : k < L.length) (h1 : 16 < (rowAt ps (L.getD k noSet) L 37).1.length) : bfsM ps n L k A N = none := by
  obtain ⟨n, rfl⟩ : ∃ j, n = j + 1 := ⟨n - 1, by omega⟩
  rw [bfsM, if_pos h, if_pos h1]
theorem bfs_end {ps : List Place} {n : Nat} {L : List Pl} {k : Nat} {A : List Bool} {N : List (List Int)} (hn : 0 < n) (h : ¬ k < L.length) : bfsM ps n L k A N = some { Accept := A, Next := N } := by
  obtain ⟨n, rfl⟩ : ∃ j, n = j + 1 := ⟨n - 1, by omega⟩
  rw [bfsM, if_neg h]
theorem langS_1 {s : List UInt8} (h : 64 < s.length) : langS s = (dLang, 2) := by rw [langS, if_pos h]
theorem langS_2 {s : List UInt8} (h : ¬ 64 < s.length) (h1 : (parseS s).isSome = false) : langS s = (dLang, 5) := by rw [langS, if_neg h, if_pos h1]
theorem langS_3 {s : List UInt8} (h : ¬ 64 < s.length) (h1 : ¬ (parseS s).isSome = false) (h2 : bfsM (plOf (parseS s)) 17 [startS (parseS s)] 0 [] [] = none) : langS s = (dLang, 2) := by rw [langS, if_neg h, if_neg h1, h2]
theorem langS_4 {s : List UInt8} {l : Lang} (h : ¬ 64 < s.length) (h1 : ¬ (parseS s).isSome = false) (h2 : bfsM (plOf (parseS s)) 17 [startS (parseS s)] 0 [] [] = some l) : langS s = (l, 0) := by rw [langS, if_neg h, if_neg h1, h2]
theorem err_lang {x : Lang} (h : x = dLang) : ImpC (.p (.agg [.v (.slice none 0 0), .v (.slice none 0 0)])) (.p (eLang x)) := by
  subst h
  exact impC_cons impC_nil (impC_cons impC_nil impC_end)
theorem ok_lang {A : List Bool} {N : List (List Int)} {x : Lang} (h : x = { Accept := A, Next := N }) : ImpC (.p (.agg [eL eB 1 false A, eL (eL eI 1 0) 1 [] N])) (.p (eLang x)) := by
  subst h
  exact impC_eq rfl
theorem Parse_ok (s : List UInt8) (hb0 : s.length < 4611686018427387904) : Pure Try.prog 11 [.s s] (.tup [.p (eLang ((langS s).1)), vint .i64 ((langS s).2)]) := by
  have hpb := parseS_bound (s := s)
  refine pure_of (fn := Try.f11) Try.func11 rfl rfl fun F_ W0_ => ?_
  refine tr_seq ?_
  refine tr_r (vc := []) (E' := [(0, none, vstr s), (2, none, .ref 0 [])]) (H' := [.box (.p (.agg [.v (.slice none 0 0), .v (.slice none 0 0)]))]) [] [] [0, 2] (by kernel_rfl) ?_ ?_
  · exact trivial
  refine tr_then (tr_seq ?_)
  refine tr_seq ?_
  refine tr_r (vc := []) (E' := [(0, none, vstr s), (2, none, .ref 0 []), (24, none, vbool (decide (64 < ((s.length : Nat) : Int))))]) (H' := [.box (.p (.agg [.v (.slice none 0 0), .v (.slice none 0 0)]))]) [] [] [0, 2, 24] (by kernel_rfl) ?_ ?_
  · exact trivial
  refine tr_then ?_
  refine tr_condP (decide (64 < ((s.length : Nat) : Int))) (64 < ((s.length : Nat) : Int)) (by simp) (by kernel_rfl) (fun hc1 => ?_) (fun hc1 => ?_)
  · skip
    refine tr_seq ?_
    refine tr_r (vc := []) (E' := [(2, none, .ref 0 []), (3, none, vint .i64 2)]) (H' := [.box (.p (.agg [.v (.slice none 0 0), .v (.slice none 0 0)]))]) [] [] [2, 3] (by kernel_rfl) ?_ ?_
    · exact trivial
    refine tr_then ?_
    refine tr_pre (E' := [(2, none, .ref 0 []), (3, none, vint .i64 2)]) (H' := [.box (.p (.agg [.v (.slice none 0 0), .v (.slice none 0 0)]))]) (fun A_ W_ hS => sl_weak (vc := []) [0] [2, 3] (by kernel_rfl) trivial hS) ?_
    refine tr_pre (E' := [(2, none, .ref 0 []), (3, none, vint .i64 2)]) (H' := [.box (.p (eLang ((langS s).1)))]) (fun A_ W_ hS => sl_obj_imp (d := .p (.agg [.v (.slice none 0 0), .v (.slice none 0 0)])) 0 (.p (eLang ((langS s).1))) (by kernel_rfl) ?_ hS) ?_
    · refine err_lang ?_
      first | (rw [langS_1 (by omega)]; done) | (rw [langS_2 (by omega) hc2]; done) | (obtain rfl : c = 37 := (by omega); rw [langS_3 (by omega) hc2 (by rw [← hi1_0]; exact bfs_many (by omega) (by omega) (by omega))]; done) | (rw [langS_4 (by omega) hc2 (by rw [← hi1_0]; exact bfs_end (by omega) (by omega))]; done)
    refine tr_pre (E' := (3, none, vint .i64 ((langS s).2)) :: [(2, none, .ref 0 []), (3, none, vint .i64 2)]) (H' := [.box (.p (eLang ((langS s).1)))]) (fun A_ W_ hS => sl_set_imp (d := vint .i64 2) 3 (vint .i64 ((langS s).2)) (by kernel_rfl) ?_ hS) ?_
    · refine imp_eq (congrArg (fun x => D.p (eI x)) (a₁ := 2) (a₂ := ((langS s).2)) ?_)
      first | (rw [langS_1 (by omega)]; done) | (rw [langS_2 (by omega) hc2]; done) | (obtain rfl : c = 37 := (by omega); rw [langS_3 (by omega) hc2 (by rw [← hi1_0]; exact bfs_many (by omega) (by omega) (by omega))]; done) | (rw [langS_4 (by omega) hc2 (by rw [← hi1_0]; exact bfs_end (by omega) (by omega))]; done)
    refine tr_pre (E' := [(2, none, .ref 0 []), (3, none, vint .i64 ((langS s).2))]) (H' := [.box (.p (eLang ((langS s).1)))]) (fun A_ W_ hS => sl_proj (ts := [2, 3]) (by kernel_rfl) hS) ?_
    exact tr_return' (vc := []) (ds := [.p (eLang ((langS s).1)), vint .i64 ((langS s).2)]) (by kernel_rfl) trivial (by kernel_rfl) (fun _ _ h => h)
  · skip
    refine tr_skip ?_
    refine tr_then (tr_seq ?_)
    refine tr_r (vc := [Pure Try.prog 31 [.s s] (.tup [.p ((eL ePlace 3 dPlace) (plOf (parseS s))), .p ((eL eI 1 0) (stOf (parseS s))), vbool ((parseS s).isSome)])]) (E' := [(2, none, .ref 0 []), (4, none, .p ((eL ePlace 3 dPlace) (plOf (parseS s)))), (5, none, .p ((eL eI 1 0) (stOf (parseS s)))), (6, none, vbool ((parseS s).isSome))]) (H' := [.box (.p (.agg [.v (.slice none 0 0), .v (.slice none 0 0)]))]) [] [(1, .tup [.p ((eL ePlace 3 dPlace) (plOf (parseS s))), .p ((eL eI 1 0) (stOf (parseS s))), vbool ((parseS s).isSome)])] [2, 4, 5, 6] (by kernel_rfl) ?_ ?_
    · refine al ?_ (trivial)
      · exact parse_ok _ (by omega)
    refine tr_then (tr_seq ?_)
    refine tr_seq ?_
    refine tr_r (vc := []) (E' := [(2, none, .ref 0 []), (4, none, .p ((eL ePlace 3 dPlace) (plOf (parseS s)))), (5, none, .p ((eL eI 1 0) (stOf (parseS s)))), (33, none, vbool (!((parseS s).isSome)))]) (H' := [.box (.p (.agg [.v (.slice none 0 0), .v (.slice none 0 0)]))]) [] [] [2, 4, 5, 33] (by kernel_rfl) ?_ ?_
    · exact trivial
    refine tr_then ?_
    refine tr_condP (!((parseS s).isSome)) (((parseS s).isSome) = false) (by simp) (by kernel_rfl) (fun hc2 => ?_) (fun hc2 => ?_)
    · skip
      refine tr_seq ?_
      refine tr_r (vc := []) (E' := [(2, none, .ref 0 []), (3, none, vint .i64 5)]) (H' := [.box (.p (.agg [.v (.slice none 0 0), .v (.slice none 0 0)]))]) [] [] [2, 3] (by kernel_rfl) ?_ ?_
      · exact trivial
      refine tr_then ?_
      refine tr_pre (E' := [(2, none, .ref 0 []), (3, none, vint .i64 5)]) (H' := [.box (.p (.agg [.v (.slice none 0 0), .v (.slice none 0 0)]))]) (fun A_ W_ hS => sl_weak (vc := []) [0] [2, 3] (by kernel_rfl) trivial hS) ?_
      refine tr_pre (E' := [(2, none, .ref 0 []), (3, none, vint .i64 5)]) (H' := [.box (.p (eLang ((langS s).1)))]) (fun A_ W_ hS => sl_obj_imp (d := .p (.agg [.v (.slice none 0 0), .v (.slice none 0 0)])) 0 (.p (eLang ((langS s).1))) (by kernel_rfl) ?_ hS) ?_
      · refine err_lang ?_
        first | (rw [langS_1 (by omega)]; done) | (rw [langS_2 (by omega) hc2]; done) | (obtain rfl : c = 37 := (by omega); rw [langS_3 (by omega) hc2 (by rw [← hi1_0]; exact bfs_many (by omega) (by omega) (by omega))]; done) | (rw [langS_4 (by omega) hc2 (by rw [← hi1_0]; exact bfs_end (by omega) (by omega))]; done)
      refine tr_pre (E' := (3, none, vint .i64 ((langS s).2)) :: [(2, none, .ref 0 []), (3, none, vint .i64 5)]) (H' := [.box (.p (eLang ((langS s).1)))]) (fun A_ W_ hS => sl_set_imp (d := vint .i64 5) 3 (vint .i64 ((langS s).2)) (by kernel_rfl) ?_ hS) ?_
      · refine imp_eq (congrArg (fun x => D.p (eI x)) (a₁ := 5) (a₂ := ((langS s).2)) ?_)
        first | (rw [langS_1 (by omega)]; done) | (rw [langS_2 (by omega) hc2]; done) | (obtain rfl : c = 37 := (by omega); rw [langS_3 (by omega) hc2 (by rw [← hi1_0]; exact bfs_many (by omega) (by omega) (by omega))]; done) | (rw [langS_4 (by omega) hc2 (by rw [← hi1_0]; exact bfs_end (by omega) (by omega))]; done)
      refine tr_pre (E' := [(2, none, .ref 0 []), (3, none, vint .i64 ((langS s).2))]) (H' := [.box (.p (eLang ((langS s).1)))]) (fun A_ W_ hS => sl_proj (ts := [2, 3]) (by kernel_rfl) hS) ?_
      exact tr_return' (vc := []) (ds := [.p (eLang ((langS s).1)), vint .i64 ((langS s).2)]) (by kernel_rfl) trivial (by kernel_rfl) (fun _ _ h => h)
    · skip
      refine tr_skip ?_
      refine tr_then (tr_seq ?_)
      refine tr_r (vc := []) (E' := [(2, none, .ref 0 []), (4, none, .p ((eL ePlace 3 dPlace) (plOf (parseS s)))), (5, none, .p ((eL eI 1 0) (stOf (parseS s)))), (7, none, .ref 1 [])]) (H' := [.box (.p (.agg [.v (.slice none 0 0), .v (.slice none 0 0)])), .box (.p ((eA (eK .u64) 1 2) (fun _ => 0)))]) [] [] [2, 4, 5, 7] (by kernel_rfl) ?_ ?_
      · exact trivial
      refine tr_then (tr_seq ?_)
      refine tr_seq ?_
      refine tr_r (vc := []) (E' := [(2, none, .ref 0 []), (4, none, .p ((eL ePlace 3 dPlace) (plOf (parseS s)))), (7, none, .ref 1 []), (35, none, .p ((eL eI 1 0) (stOf (parseS s)))), (36, none, vint .i64 (((stOf (parseS s)).length : Nat) : Int)), (37, none, vint .i64 0)]) (H' := [.box (.p (.agg [.v (.slice none 0 0), .v (.slice none 0 0)])), .box (.p ((eA (eK .u64) 1 2) (fun _ => 0)))]) [] [] [2, 4, 7, 35, 36, 37] (by kernel_rfl) ?_ ?_
      · exact trivial
      refine tr_then ?_
      refine tr_block ?_
      refine tr_loop (α := Nat) (fun z : Nat => (fun (n0 : Nat) => [(2, none, .ref 0 []), (4, none, .p ((eL ePlace 3 dPlace) (plOf (parseS s)))), (7, none, .ref 1 []), (35, none, .p ((eL eI 1 0) (stOf (parseS s)))), (36, none, vint .i64 (((stOf (parseS s)).length : Nat) : Int)), (37, none, vint .i64 ((n0 : Nat) : Int))]) z) (fun z : Nat => (fun (n0 : Nat) => [.box (.p (.agg [.v (.slice none 0 0), .v (.slice none 0 0)])), .box (.p ((eA (eK .u64) 1 2) (setW (startAt (stOf (parseS s)) n0))))]) z) (fun z : Nat => (fun (n0 : Nat) => (n0 ≤ (stOf (parseS s)).length)) z) (fun z : Nat => (fun (n0 : Nat) => (stOf (parseS s)).length - n0) z) 0 ?_ ?_ ?_
      · show (0 ≤ (stOf (parseS s)).length)
        · omega
      · intro A_ W_ hS
        replace hS := sl_set (d := vint .i64 0) 37 (vint .i64 ((0 : Nat) : Int)) (by kernel_rfl) (eqD_int (by omega)) hS
        replace hS := sl_obj_imp (d := .p ((eA (eK .u64) 1 2) (fun _ => 0))) 1 (.p ((eA (eK .u64) 1 2) (setW (startAt (stOf (parseS s)) 0)))) (by kernel_rfl) (impC_eq (congrArg (fun x => D.p ((eA (eK .u64) 1 2) x)) (a₁ := (fun _ => 0)) (a₂ := (setW (startAt (stOf (parseS s)) 0))) (by exact setW_empty))) hS
        exact sl_weak (vc := []) [0, 1] [2, 4, 7, 35, 36, 37] (by kernel_rfl) trivial hS
      · intro z hz
        revert z; intro n0 hz
        have hz : (n0 ≤ (stOf (parseS s)).length) := hz
        have hi0_0 := hz
        have hpi := hpb.1 n0
        refine tr_seq ?_
        refine tr_r (vc := []) (E' := [(2, none, .ref 0 []), (4, none, .p ((eL ePlace 3 dPlace) (plOf (parseS s)))), (7, none, .ref 1 []), (35, none, .p ((eL eI 1 0) (stOf (parseS s)))), (36, none, vint .i64 (((stOf (parseS s)).length : Nat) : Int)), (37, none, vint .i64 ((n0 : Nat) : Int)), (38, none, vbool (decide (((n0 : Nat) : Int) < (((stOf (parseS s)).length : Nat) : Int))))]) (H' := [.box (.p (.agg [.v (.slice none 0 0), .v (.slice none 0 0)])), .box (.p ((eA (eK .u64) 1 2) (setW (startAt (stOf (parseS s)) n0))))]) [] [] [2, 4, 7, 35, 36, 37, 38] (by kernel_rfl) ?_ ?_
        · exact trivial
        refine tr_then (tr_seq ?_)
        refine tr_condP (decide (((n0 : Nat) : Int) < (((stOf (parseS s)).length : Nat) : Int))) (((n0 : Nat) : Int) < (((stOf (parseS s)).length : Nat) : Int)) (by simp) (by kernel_rfl) (fun hc3 => ?_) (fun hc3 => ?_)
        · skip
          refine tr_skip ?_
          refine tr_then (tr_seq ?_)
          refine tr_block ?_
          refine tr_seq ?_
          refine tr_r (vc := [(0 : Int) ≤ ((n0 : Nat) : Int), ((n0 : Nat) : Int) < ((stOf (parseS s)).length : Int), ((stOf (parseS s)).getD n0 0) = ((((stOf (parseS s)).getD n0 0).toNat : Nat) : Int)]) (E' := [(2, none, .ref 0 []), (4, none, .p ((eL ePlace 3 dPlace) (plOf (parseS s)))), (7, none, .ref 1 []), (9, none, vint .i64 ((((stOf (parseS s)).getD n0 0).toNat : Nat) : Int)), (35, none, .p ((eL eI 1 0) (stOf (parseS s)))), (36, none, vint .i64 (((stOf (parseS s)).length : Nat) : Int)), (37, none, vint .i64 ((n0 : Nat) : Int))]) (H' := [.box (.p (.agg [.v (.slice none 0 0), .v (.slice none 0 0)])), .box (.p ((eA (eK .u64) 1 2) (setW (startAt (stOf (parseS s)) n0))))]) [(1, vint .i64 ((((stOf (parseS s)).getD n0 0).toNat : Nat) : Int))] [] [2, 4, 7, 9, 35, 36, 37] (by kernel_rfl) ?_ ?_
          · refine al ?_ (al ?_ (al ?_ (trivial)))
            · omega
            · omega
            · omega
          refine tr_then ?_
          refine tr_r (vc := [Mut Try.prog 32 ((eA (eK .u64) 1 2) (setW (startAt (stOf (parseS s)) n0))) [.v (.int .i64 ((((stOf (parseS s)).getD n0 0).toNat : Nat) : Int))] ((eA (eK .u64) 1 2) (setW (upd (startAt (stOf (parseS s)) n0) (((stOf (parseS s)).getD n0 0).toNat) true))) (.tup [])]) (E' := [(2, none, .ref 0 []), (4, none, .p ((eL ePlace 3 dPlace) (plOf (parseS s)))), (7, none, .ref 1 []), (35, none, .p ((eL eI 1 0) (stOf (parseS s)))), (36, none, vint .i64 (((stOf (parseS s)).length : Nat) : Int)), (37, none, vint .i64 ((n0 : Nat) : Int))]) (H' := [.box (.p (.agg [.v (.slice none 0 0), .v (.slice none 0 0)])), .box (.p ((eA (eK .u64) 1 2) (setW (upd (startAt (stOf (parseS s)) n0) (((stOf (parseS s)).getD n0 0).toNat) true))))]) [] [(1, .tup [.p ((eA (eK .u64) 1 2) (setW (upd (startAt (stOf (parseS s)) n0) (((stOf (parseS s)).getD n0 0).toNat) true))), .tup []])] [2, 4, 7, 35, 36, 37] (by kernel_rfl) ?_ ?_
          · refine al ?_ (trivial)
            · exact setAdd_ok _ _ (by omega)
          refine in_n ?_
          refine tr_then ?_
          refine tr_r (vc := [(IntKind.wrap .i64 (((n0 : Nat) : Int) + 1)) = (((n0 + 1) : Nat) : Int)]) (E' := [(2, none, .ref 0 []), (4, none, .p ((eL ePlace 3 dPlace) (plOf (parseS s)))), (7, none, .ref 1 []), (35, none, .p ((eL eI 1 0) (stOf (parseS s)))), (36, none, vint .i64 (((stOf (parseS s)).length : Nat) : Int)), (37, none, vint .i64 (((n0 + 1) : Nat) : Int))]) (H' := [.box (.p (.agg [.v (.slice none 0 0), .v (.slice none 0 0)])), .box (.p ((eA (eK .u64) 1 2) (setW (upd (startAt (stOf (parseS s)) n0) (((stOf (parseS s)).getD n0 0).toNat) true))))]) [(0, vint .i64 (((n0 + 1) : Nat) : Int))] [] [2, 4, 7, 35, 36, 37] (by kernel_rfl) ?_ ?_
          · refine al ?_ (trivial)
            · exact wr64 (by omega) (by omega) (by omega)
          refine lp_end (n0 + 1) ?_ ?_ ?_
          · show ((n0 + 1) ≤ (stOf (parseS s)).length)
            · omega
          · show (stOf (parseS s)).length - (n0 + 1) < (stOf (parseS s)).length - n0
            omega
          · intro A_ W_ hS
            replace hS := sl_obj_imp (d := .p ((eA (eK .u64) 1 2) (setW (upd (startAt (stOf (parseS s)) n0) (((stOf (parseS s)).getD n0 0).toNat) true)))) 1 (.p ((eA (eK .u64) 1 2) (setW (startAt (stOf (parseS s)) (n0 + 1))))) (by kernel_rfl) (impC_eq (congrArg (fun x => D.p ((eA (eK .u64) 1 2) x)) (a₁ := (setW (upd (startAt (stOf (parseS s)) n0) (((stOf (parseS s)).getD n0 0).toNat) true))) (a₂ := (setW (startAt (stOf (parseS s)) (n0 + 1)))) (by rfl))) hS
            exact sl_weak (vc := []) [0, 1] [2, 4, 7, 35, 36, 37] (by kernel_rfl) trivial hS
        · skip
          refine tr_exit ?_
          refine th_e ?_
          refine th_e ?_
          refine in_hit ?_
          refine tr_then (tr_seq ?_)
          refine tr_r (vc := [Pure Try.prog 33 [(eL ePlace 3 dPlace) (plOf (parseS s)), (eA (eK .u64) 1 2) (setW (startAt (stOf (parseS s)) n0))] (.p ((eA (eK .u64) 1 2) (setW (closedS (plOf (parseS s)) (startAt (stOf (parseS s)) n0)))))]) (E' := [(2, none, .ref 0 []), (4, none, .p ((eL ePlace 3 dPlace) (plOf (parseS s)))), (10, none, .own 2)]) (H' := [.box (.p (.agg [.v (.slice none 0 0), .v (.slice none 0 0)])), .box (.p ((eA (eK .u64) 1 2) (setW (startAt (stOf (parseS s)) n0)))), .arr 67 2 1 (fun j => ([.p ((eA (eK .u64) 1 2) (setW (closedS (plOf (parseS s)) (startAt (stOf (parseS s)) n0))))] : List D).getD j default)]) [] [(2, .p ((eA (eK .u64) 1 2) (setW (closedS (plOf (parseS s)) (startAt (stOf (parseS s)) n0)))))] [2, 4, 10] (by kernel_rfl) ?_ ?_
          · refine al ?_ (trivial)
            · exact closed_ok _ _ (by omega)
          refine nm_pre (E' := [(2, none, .ref 0 []), (4, none, .p ((eL ePlace 3 dPlace) (plOf (parseS s)))), (10, none, .own 2)]) (H' := [.box (.p (.agg [.v (.slice none 0 0), .v (.slice none 0 0)])), .box (.p ((eA (eK .u64) 1 2) (setW (startAt (stOf (parseS s)) n0)))), oL 67 (eA (eK .u64) 1 2) 2 (fun _ => 0) ([(setW (closedS (plOf (parseS s)) (startAt (stOf (parseS s)) n0)))])]) (fun A_ W_ hS => sl_arr (n := 1) (n' := ([(setW (closedS (plOf (parseS s)) (startAt (stOf (parseS s)) n0)))]).length) (f := fun j => ([.p ((eA (eK .u64) 1 2) (setW (closedS (plOf (parseS s)) (startAt (stOf (parseS s)) n0))))] : List D).getD j default) 2 (fun i => .p ((eA (eK .u64) 1 2) (([(setW (closedS (plOf (parseS s)) (startAt (stOf (parseS s)) n0)))]).getD i (fun _ => 0)))) (by kernel_rfl) (rfl) (by exact lit_getD (e := (eA (eK .u64) 1 2)) (d := (fun _ => 0)) (l := [(setW (closedS (plOf (parseS s)) (startAt (stOf (parseS s)) n0)))])) hS) ?_
          refine tr_then (tr_seq ?_)
          refine tr_r (vc := [(0 : Int) ≤ 0, 0 < (([(setW (closedS (plOf (parseS s)) (startAt (stOf (parseS s)) n0)))]).length : Int), 0 < ([(setW (closedS (plOf (parseS s)) (startAt (stOf (parseS s)) n0)))]).length]) (E' := [(2, none, .ref 0 []), (4, none, .p ((eL ePlace 3 dPlace) (plOf (parseS s)))), (10, none, .own 2), (11, none, .own 3)]) (H' := [.box (.p (.agg [.v (.slice none 0 0), .v (.slice none 0 0)])), .box (.p ((eA (eK .u64) 1 2) (setW (startAt (stOf (parseS s)) n0)))), oL 67 (eA (eK .u64) 1 2) 2 (fun _ => 0) ([(setW (closedS (plOf (parseS s)) (startAt (stOf (parseS s)) n0)))]), .map (.arr 2 .u64) (setMap (fun _ => none) ([(([(setW (closedS (plOf (parseS s)) (startAt (stOf (parseS s)) n0)))]).getD 0 (fun _ => 0)) 0, (([(setW (closedS (plOf (parseS s)) (startAt (stOf (parseS s)) n0)))]).getD 0 (fun _ => 0)) 1] : List Int) (.v (.int .i64 0)))]) [] [] [2, 4, 10, 11] (by kernel_rfl) ?_ ?_
          · refine al ?_ (al ?_ (al ?_ (trivial)))
            · omega
            · (simp; done)
            · (simp; done)
          refine tr_then (tr_seq ?_)
          refine tr_r (vc := []) (E' := [(2, none, .ref 0 []), (4, none, .p ((eL ePlace 3 dPlace) (plOf (parseS s)))), (10, none, .own 2), (11, none, .own 3), (12, none, .ref 4 [])]) (H' := [.box (.p (.agg [.v (.slice none 0 0), .v (.slice none 0 0)])), .box (.p ((eA (eK .u64) 1 2) (setW (startAt (stOf (parseS s)) n0)))), oL 67 (eA (eK .u64) 1 2) 2 (fun _ => 0) ([(setW (closedS (plOf (parseS s)) (startAt (stOf (parseS s)) n0)))]), .map (.arr 2 .u64) (setMap (fun _ => none) ([(([(setW (closedS (plOf (parseS s)) (startAt (stOf (parseS s)) n0)))]).getD 0 (fun _ => 0)) 0, (([(setW (closedS (plOf (parseS s)) (startAt (stOf (parseS s)) n0)))]).getD 0 (fun _ => 0)) 1] : List Int) (.v (.int .i64 0))), .box (.p (.agg [.v (.slice none 0 0), .v (.slice none 0 0)]))]) [] [] [2, 4, 10, 11, 12] (by kernel_rfl) ?_ ?_
          · exact trivial
          refine tr_then (tr_seq ?_)
          refine tr_seq ?_
          refine tr_r (vc := []) (E' := [(2, none, .ref 0 []), (4, none, .p ((eL ePlace 3 dPlace) (plOf (parseS s)))), (10, none, .own 2), (11, none, .own 3), (12, none, .ref 4 []), (13, none, vint .i64 0)]) (H' := [.box (.p (.agg [.v (.slice none 0 0), .v (.slice none 0 0)])), .box (.p ((eA (eK .u64) 1 2) (setW (startAt (stOf (parseS s)) n0)))), oL 67 (eA (eK .u64) 1 2) 2 (fun _ => 0) ([(setW (closedS (plOf (parseS s)) (startAt (stOf (parseS s)) n0)))]), .map (.arr 2 .u64) (setMap (fun _ => none) ([(([(setW (closedS (plOf (parseS s)) (startAt (stOf (parseS s)) n0)))]).getD 0 (fun _ => 0)) 0, (([(setW (closedS (plOf (parseS s)) (startAt (stOf (parseS s)) n0)))]).getD 0 (fun _ => 0)) 1] : List Int) (.v (.int .i64 0))), .box (.p (.agg [.v (.slice none 0 0), .v (.slice none 0 0)]))]) [] [] [2, 4, 10, 11, 12, 13] (by kernel_rfl) ?_ ?_
          · exact trivial
          refine tr_then ?_
          refine tr_block ?_
          refine tr_loop (α := Nat × (List Pl) × (List Bool) × (List (List Int))) (fun z : Nat × (List Pl) × (List Bool) × (List (List Int)) => (fun (k : Nat) (L : List Pl) (A : List Bool) (Nx : List (List Int)) => [(2, none, .ref 0 []), (4, none, .p ((eL ePlace 3 dPlace) (plOf (parseS s)))), (10, none, .own 2), (11, none, .own 3), (12, none, .ref 4 []), (13, none, vint .i64 ((k : Nat) : Int))]) z.1 z.2.1 z.2.2.1 z.2.2.2) (fun z : Nat × (List Pl) × (List Bool) × (List (List Int)) => (fun (k : Nat) (L : List Pl) (A : List Bool) (Nx : List (List Int)) => [.box (.p (.agg [.v (.slice none 0 0), .v (.slice none 0 0)])), .box (.p ((eA (eK .u64) 1 2) (setW (startAt (stOf (parseS s)) n0)))), oL 67 (eA (eK .u64) 1 2) 2 (fun _ => 0) (L.map setW), .map (.arr 2 .u64) (mapK (L.map keyS)), .box (.agg [.own 5, .own 6]), oL 4 eB 1 false A, oL 22 (eL eI 1 0) 1 [] Nx]) z.1 z.2.1 z.2.2.1 z.2.2.2) (fun z : Nat × (List Pl) × (List Bool) × (List (List Int)) => (fun (k : Nat) (L : List Pl) (A : List Bool) (Nx : List (List Int)) => (bfsM (plOf (parseS s)) (17 - k) L k A Nx = bfsM (plOf (parseS s)) 17 [startS (parseS s)] 0 [] []) ∧ (k ≤ L.length) ∧ (L.length ≤ 16) ∧ (A.length = k) ∧ (Nx.length = k)) z.1 z.2.1 z.2.2.1 z.2.2.2) (fun z : Nat × (List Pl) × (List Bool) × (List (List Int)) => (fun (k : Nat) (L : List Pl) (A : List Bool) (Nx : List (List Int)) => 17 - k) z.1 z.2.1 z.2.2.1 z.2.2.2) (0, [startS (parseS s)], ([] : List Bool), ([] : List (List Int))) ?_ ?_ ?_
          · show (bfsM (plOf (parseS s)) (17 - 0) ([startS (parseS s)]) 0 ([] : List Bool) ([] : List (List Int)) = bfsM (plOf (parseS s)) 17 [startS (parseS s)] 0 [] []) ∧ (0 ≤ ([startS (parseS s)]).length) ∧ (([startS (parseS s)]).length ≤ 16) ∧ (([] : List Bool).length = 0) ∧ (([] : List (List Int)).length = 0)
            refine ⟨?_, ?_, ?_, ?_, ?_⟩
            · (simp; done)
            · omega
            · (simp; done)
            · (simp; done)
            · (simp; done)
          · intro A_ W_ hS
            replace hS := sl_set (d := vint .i64 0) 13 (vint .i64 ((0 : Nat) : Int)) (by kernel_rfl) (eqD_int (by omega)) hS
            replace hS := sl_nil_box (d := .p (.agg [.v (.slice none 0 0), .v (.slice none 0 0)])) (l := [.p (.v (.slice none 0 0)), .p (.v (.slice none 0 0))]) 4 0 4 1 (fun i => .p (eB (([] : List Bool).getD i false))) (by kernel_rfl) (by kernel_rfl) (by kernel_rfl) hS
            replace hS := sl_nil_box (d := .agg [.own 5, .p (.v (.slice none 0 0))]) (l := [.own 5, .p (.v (.slice none 0 0))]) 4 1 22 1 (fun i => .p ((eL eI 1 0) (([] : List (List Int)).getD i []))) (by kernel_rfl) (by kernel_rfl) (by kernel_rfl) hS
            replace hS := sl_obj (o := .map (.arr 2 .u64) (setMap (fun _ => none) ([(([(setW (closedS (plOf (parseS s)) (startAt (stOf (parseS s)) n0)))]).getD 0 (fun _ => 0)) 0, (([(setW (closedS (plOf (parseS s)) (startAt (stOf (parseS s)) n0)))]).getD 0 (fun _ => 0)) 1] : List Int) (.v (.int .i64 0)))) 3 (.map (.arr 2 .u64) (mapK (([startS (parseS s)]).map keyS))) (by kernel_rfl) (congrArg (O.map (.arr 2 .u64)) (a₁ := (setMap (fun _ => none) ([(([(setW (closedS (plOf (parseS s)) (startAt (stOf (parseS s)) n0)))]).getD 0 (fun _ => 0)) 0, (([(setW (closedS (plOf (parseS s)) (startAt (stOf (parseS s)) n0)))]).getD 0 (fun _ => 0)) 1] : List Int) (.v (.int .i64 0)))) (a₂ := (mapK (([startS (parseS s)]).map keyS))) (by rw [show n0 = (stOf (parseS s)).length by omega]; exact mapK_one (startS (parseS s)))) hS
            replace hS := sl_arr (e := 67) (sz := 2) (n := ([(setW (closedS (plOf (parseS s)) (startAt (stOf (parseS s)) n0)))]).length) (n' := (([startS (parseS s)]).map setW).length) (f := (fun i => .p ((eA (eK .u64) 1 2) (([(setW (closedS (plOf (parseS s)) (startAt (stOf (parseS s)) n0)))]).getD i (fun _ => 0))))) 2 (fun i => .p ((eA (eK .u64) 1 2) ((([startS (parseS s)]).map setW).getD i (fun _ => 0)))) (by kernel_rfl) (by (simp; done)) (by intro j hj; rw [show n0 = (stOf (parseS s)).length by omega]; rfl) hS
            exact sl_weak (vc := [∀ i, i < (([startS (parseS s)]).map setW).length → D.p ((eA (eK .u64) 1 2) ((([startS (parseS s)]).map setW).getD i (fun _ => 0))) = .p ((eA (eK .u64) 1 2) ((([startS (parseS s)]).map setW).getD i (fun _ => 0))), ∀ i, i < ([] : List Bool).length → D.p (eB (([] : List Bool).getD i false)) = .p (eB (([] : List Bool).getD i false)), ∀ i, i < ([] : List (List Int)).length → D.p ((eL eI 1 0) (([] : List (List Int)).getD i [])) = .p ((eL eI 1 0) (([] : List (List Int)).getD i []))]) [0, 1, 2, 3, 4, 5, 6] [2, 4, 10, 11, 12, 13] (by kernel_rfl) (al (fun _ _ => rfl) (al (fun _ _ => rfl) (al (fun _ _ => rfl) trivial))) hS
          · intro z hz
            obtain ⟨k, L, A, Nx⟩ := z
            have hz : (bfsM (plOf (parseS s)) (17 - k) L k A Nx = bfsM (plOf (parseS s)) 17 [startS (parseS s)] 0 [] []) ∧ (k ≤ L.length) ∧ (L.length ≤ 16) ∧ (A.length = k) ∧ (Nx.length = k) := hz
            obtain ⟨hi1_0, hi1_1, hi1_2, hi1_3, hi1_4⟩ := hz
            have hlm : (L.map setW).length = L.length := List.length_map ..
            have hr := rowAt_len (ps := (plOf (parseS s))) (S := L.getD k noSet) (L := L) (c := 37)
            have hlm2 : ((rowAt (plOf (parseS s)) (L.getD k noSet) L 37).1.map setW).length = (rowAt (plOf (parseS s)) (L.getD k noSet) L 37).1.length := List.length_map ..
            refine tr_seq ?_
            refine tr_seq ?_
            refine tr_r (vc := []) (E' := [(2, none, .ref 0 []), (4, none, .p ((eL ePlace 3 dPlace) (plOf (parseS s)))), (10, none, .own 2), (11, none, .own 3), (12, none, .ref 4 []), (13, none, vint .i64 ((k : Nat) : Int)), (56, none, vbool (decide (((k : Nat) : Int) < (((L.map setW).length : Nat) : Int))))]) (H' := [.box (.p (.agg [.v (.slice none 0 0), .v (.slice none 0 0)])), .box (.p ((eA (eK .u64) 1 2) (setW (startAt (stOf (parseS s)) n0)))), oL 67 (eA (eK .u64) 1 2) 2 (fun _ => 0) (L.map setW), .map (.arr 2 .u64) (mapK (L.map keyS)), .box (.agg [.own 5, .own 6]), oL 4 eB 1 false A, oL 22 (eL eI 1 0) 1 [] Nx]) [] [] [2, 4, 10, 11, 12, 13, 56] (by kernel_rfl) ?_ ?_
            · exact trivial
            refine tr_then ?_
            refine tr_condP (decide (((k : Nat) : Int) < (((L.map setW).length : Nat) : Int))) (((k : Nat) : Int) < (((L.map setW).length : Nat) : Int)) (by simp) (by kernel_rfl) (fun hc4 => ?_) (fun hc4 => ?_)
            · skip
              refine tr_skip ?_
              refine tr_then (tr_seq ?_)
              refine tr_block ?_
              refine tr_seq ?_
              refine tr_r (vc := []) (E' := [(2, none, .ref 0 []), (4, none, .p ((eL ePlace 3 dPlace) (plOf (parseS s)))), (10, none, .own 2), (11, none, .own 3), (12, none, .ref 4 []), (13, none, vint .i64 ((k : Nat) : Int)), (14, none, vbool false)]) (H' := [.box (.p (.agg [.v (.slice none 0 0), .v (.slice none 0 0)])), .box (.p ((eA (eK .u64) 1 2) (setW (startAt (stOf (parseS s)) n0)))), oL 67 (eA (eK .u64) 1 2) 2 (fun _ => 0) (L.map setW), .map (.arr 2 .u64) (mapK (L.map keyS)), .box (.agg [.own 5, .own 6]), oL 4 eB 1 false A, oL 22 (eL eI 1 0) 1 [] Nx]) [] [] [2, 4, 10, 11, 12, 13, 14] (by kernel_rfl) ?_ ?_
              · exact trivial
              refine tr_then (tr_seq ?_)
              refine tr_seq ?_
              refine tr_r (vc := []) (E' := [(2, none, .ref 0 []), (4, none, .p ((eL ePlace 3 dPlace) (plOf (parseS s)))), (10, none, .own 2), (11, none, .own 3), (12, none, .ref 4 []), (13, none, vint .i64 ((k : Nat) : Int)), (14, none, vbool false), (59, none, .p ((eL ePlace 3 dPlace) (plOf (parseS s)))), (60, none, vint .i64 (((plOf (parseS s)).length : Nat) : Int)), (61, none, vint .i64 0)]) (H' := [.box (.p (.agg [.v (.slice none 0 0), .v (.slice none 0 0)])), .box (.p ((eA (eK .u64) 1 2) (setW (startAt (stOf (parseS s)) n0)))), oL 67 (eA (eK .u64) 1 2) 2 (fun _ => 0) (L.map setW), .map (.arr 2 .u64) (mapK (L.map keyS)), .box (.agg [.own 5, .own 6]), oL 4 eB 1 false A, oL 22 (eL eI 1 0) 1 [] Nx]) [] [] [2, 4, 10, 11, 12, 13, 14, 59, 60, 61] (by kernel_rfl) ?_ ?_
              · exact trivial
              refine tr_then ?_
              refine tr_block ?_
              refine tr_loop (α := Nat) (fun z : Nat => (fun (q : Nat) => [(2, none, .ref 0 []), (4, none, .p ((eL ePlace 3 dPlace) (plOf (parseS s)))), (10, none, .own 2), (11, none, .own 3), (12, none, .ref 4 []), (13, none, vint .i64 ((k : Nat) : Int)), (14, none, vbool (acc (plOf (parseS s)) (L.getD k noSet) q)), (59, none, .p ((eL ePlace 3 dPlace) (plOf (parseS s)))), (60, none, vint .i64 (((plOf (parseS s)).length : Nat) : Int)), (61, none, vint .i64 ((q : Nat) : Int))]) z) (fun z : Nat => (fun (q : Nat) => [.box (.p (.agg [.v (.slice none 0 0), .v (.slice none 0 0)])), .box (.p ((eA (eK .u64) 1 2) (setW (startAt (stOf (parseS s)) n0)))), oL 67 (eA (eK .u64) 1 2) 2 (fun _ => 0) (L.map setW), .map (.arr 2 .u64) (mapK (L.map keyS)), .box (.agg [.own 5, .own 6]), oL 4 eB 1 false A, oL 22 (eL eI 1 0) 1 [] Nx]) z) (fun z : Nat => (fun (q : Nat) => (q ≤ (plOf (parseS s)).length)) z) (fun z : Nat => (fun (q : Nat) => (plOf (parseS s)).length - q) z) 0 ?_ ?_ ?_
              · show (0 ≤ (plOf (parseS s)).length)
                · omega
              · intro A_ W_ hS
                replace hS := sl_set (d := vbool false) 14 (vbool (acc (plOf (parseS s)) (L.getD k noSet) 0)) (by kernel_rfl) (eqD_bool (by rfl)) hS
                replace hS := sl_set (d := vint .i64 0) 61 (vint .i64 ((0 : Nat) : Int)) (by kernel_rfl) (eqD_int (by omega)) hS
                exact sl_weak (vc := [∀ i, i < (L.map setW).length → D.p ((eA (eK .u64) 1 2) ((L.map setW).getD i (fun _ => 0))) = .p ((eA (eK .u64) 1 2) ((L.map setW).getD i (fun _ => 0))), ∀ i, i < A.length → D.p (eB (A.getD i false)) = .p (eB (A.getD i false)), ∀ i, i < Nx.length → D.p ((eL eI 1 0) (Nx.getD i [])) = .p ((eL eI 1 0) (Nx.getD i []))]) [0, 1, 2, 3, 4, 5, 6] [2, 4, 10, 11, 12, 13, 14, 59, 60, 61] (by kernel_rfl) (al (fun _ _ => rfl) (al (fun _ _ => rfl) (al (fun _ _ => rfl) trivial))) hS
              · intro z hz
                revert z; intro q hz
                have hz : (q ≤ (plOf (parseS s)).length) := hz
                have hi2_0 := hz
                refine tr_seq ?_
                refine tr_r (vc := []) (E' := [(2, none, .ref 0 []), (4, none, .p ((eL ePlace 3 dPlace) (plOf (parseS s)))), (10, none, .own 2), (11, none, .own 3), (12, none, .ref 4 []), (13, none, vint .i64 ((k : Nat) : Int)), (14, none, vbool (acc (plOf (parseS s)) (L.getD k noSet) q)), (59, none, .p ((eL ePlace 3 dPlace) (plOf (parseS s)))), (60, none, vint .i64 (((plOf (parseS s)).length : Nat) : Int)), (61, none, vint .i64 ((q : Nat) : Int)), (62, none, vbool (decide (((q : Nat) : Int) < (((plOf (parseS s)).length : Nat) : Int))))]) (H' := [.box (.p (.agg [.v (.slice none 0 0), .v (.slice none 0 0)])), .box (.p ((eA (eK .u64) 1 2) (setW (startAt (stOf (parseS s)) n0)))), oL 67 (eA (eK .u64) 1 2) 2 (fun _ => 0) (L.map setW), .map (.arr 2 .u64) (mapK (L.map keyS)), .box (.agg [.own 5, .own 6]), oL 4 eB 1 false A, oL 22 (eL eI 1 0) 1 [] Nx]) [] [] [2, 4, 10, 11, 12, 13, 14, 59, 60, 61, 62] (by kernel_rfl) ?_ ?_
                · exact trivial
                refine tr_then (tr_seq ?_)
                refine tr_condP (decide (((q : Nat) : Int) < (((plOf (parseS s)).length : Nat) : Int))) (((q : Nat) : Int) < (((plOf (parseS s)).length : Nat) : Int)) (by simp) (by kernel_rfl) (fun hc5 => ?_) (fun hc5 => ?_)
                · skip
                  refine tr_skip ?_
                  refine tr_then (tr_seq ?_)
                  refine tr_block ?_
                  refine tr_seq ?_
                  refine tr_r (vc := [(0 : Int) ≤ ((q : Nat) : Int), ((q : Nat) : Int) < ((plOf (parseS s)).length : Int)]) (E' := [(2, none, .ref 0 []), (4, none, .p ((eL ePlace 3 dPlace) (plOf (parseS s)))), (10, none, .own 2), (11, none, .own 3), (12, none, .ref 4 []), (13, none, vint .i64 ((k : Nat) : Int)), (14, none, vbool (acc (plOf (parseS s)) (L.getD k noSet) q)), (15, none, vint .i64 ((q : Nat) : Int)), (16, none, .ref 7 []), (59, none, .p ((eL ePlace 3 dPlace) (plOf (parseS s)))), (60, none, vint .i64 (((plOf (parseS s)).length : Nat) : Int)), (61, none, vint .i64 ((q : Nat) : Int))]) (H' := [.box (.p (.agg [.v (.slice none 0 0), .v (.slice none 0 0)])), .box (.p ((eA (eK .u64) 1 2) (setW (startAt (stOf (parseS s)) n0)))), oL 67 (eA (eK .u64) 1 2) 2 (fun _ => 0) (L.map setW), .map (.arr 2 .u64) (mapK (L.map keyS)), .box (.agg [.own 5, .own 6]), oL 4 eB 1 false A, oL 22 (eL eI 1 0) 1 [] Nx, .box (.p (ePlace ((plOf (parseS s)).getD q dPlace)))]) [] [] [2, 4, 10, 11, 12, 13, 14, 15, 16, 59, 60, 61] (by kernel_rfl) ?_ ?_
                  · refine al ?_ (al ?_ (trivial))
                    · omega
                    · omega
                  refine tr_then ?_
                  refine tr_r (vc := [(!(acc (plOf (parseS s)) (L.getD k noSet) q)) = true → (!(acc (plOf (parseS s)) (L.getD k noSet) q)) = true, (!(acc (plOf (parseS s)) (L.getD k noSet) q)) = true → (!(acc (plOf (parseS s)) (L.getD k noSet) q)) = true, ((!(acc (plOf (parseS s)) (L.getD k noSet) q)) && (((plOf (parseS s)).getD q dPlace).fEnd)) = true → ((!(acc (plOf (parseS s)) (L.getD k noSet) q)) && (((plOf (parseS s)).getD q dPlace).fEnd)) = true, ((!(acc (plOf (parseS s)) (L.getD k noSet) q)) && (((plOf (parseS s)).getD q dPlace).fEnd)) = true → ((!(acc (plOf (parseS s)) (L.getD k noSet) q)) && (((plOf (parseS s)).getD q dPlace).fEnd)) = true, ((!(acc (plOf (parseS s)) (L.getD k noSet) q)) && (((plOf (parseS s)).getD q dPlace).fEnd)) = true → ((0 : Int) ≤ ((k : Nat) : Int)), ((!(acc (plOf (parseS s)) (L.getD k noSet) q)) && (((plOf (parseS s)).getD q dPlace).fEnd)) = true → (((k : Nat) : Int) < ((L.map setW).length : Int)), ((!(acc (plOf (parseS s)) (L.getD k noSet) q)) && (((plOf (parseS s)).getD q dPlace).fEnd)) = true → ((!(acc (plOf (parseS s)) (L.getD k noSet) q)) && (((plOf (parseS s)).getD q dPlace).fEnd)) = true, ((!(acc (plOf (parseS s)) (L.getD k noSet) q)) && (((plOf (parseS s)).getD q dPlace).fEnd)) = true → (k < (L.map setW).length), ((!(acc (plOf (parseS s)) (L.getD k noSet) q)) && (((plOf (parseS s)).getD q dPlace).fEnd)) = true → ((.p ((eA (eK .u64) 1 2) ((L.map setW).getD k (fun _ => 0))) : D) = .p ((eA (eK .u64) 1 2) (setW (L.getD k noSet)))), ((!(acc (plOf (parseS s)) (L.getD k noSet) q)) && (((plOf (parseS s)).getD q dPlace).fEnd)) = true → ((!(acc (plOf (parseS s)) (L.getD k noSet) q)) && (((plOf (parseS s)).getD q dPlace).fEnd)) = true, ((!(acc (plOf (parseS s)) (L.getD k noSet) q)) && (((plOf (parseS s)).getD q dPlace).fEnd)) = true → ((!(acc (plOf (parseS s)) (L.getD k noSet) q)) && (((plOf (parseS s)).getD q dPlace).fEnd)) = true, ((!(acc (plOf (parseS s)) (L.getD k noSet) q)) && (((plOf (parseS s)).getD q dPlace).fEnd)) = true → (Pure Try.prog 34 [(eA (eK .u64) 1 2) (setW (L.getD k noSet)), .v (.int .i64 ((q : Nat) : Int))] (vbool ((L.getD k noSet) q))), (!(acc (plOf (parseS s)) (L.getD k noSet) q)) = true → ((!(acc (plOf (parseS s)) (L.getD k noSet) q)) = true → (!(acc (plOf (parseS s)) (L.getD k noSet) q)) = true), ((!(acc (plOf (parseS s)) (L.getD k noSet) q)) && (((plOf (parseS s)).getD q dPlace).fEnd)) = true → ((!(acc (plOf (parseS s)) (L.getD k noSet) q)) && (((plOf (parseS s)).getD q dPlace).fEnd)) = true, (!(acc (plOf (parseS s)) (L.getD k noSet) q)) = true → (!(acc (plOf (parseS s)) (L.getD k noSet) q)) = true]) (E' := [(2, none, .ref 0 []), (4, none, .p ((eL ePlace 3 dPlace) (plOf (parseS s)))), (10, none, .own 2), (11, none, .own 3), (12, none, .ref 4 []), (13, none, vint .i64 ((k : Nat) : Int)), (14, none, vbool ((acc (plOf (parseS s)) (L.getD k noSet) q) || ((((plOf (parseS s)).getD q dPlace).fEnd) && ((L.getD k noSet) q)))), (59, none, .p ((eL ePlace 3 dPlace) (plOf (parseS s)))), (60, none, vint .i64 (((plOf (parseS s)).length : Nat) : Int)), (61, none, vint .i64 ((q : Nat) : Int))]) (H' := [.box (.p (.agg [.v (.slice none 0 0), .v (.slice none 0 0)])), .box (.p ((eA (eK .u64) 1 2) (setW (startAt (stOf (parseS s)) n0)))), oL 67 (eA (eK .u64) 1 2) 2 (fun _ => 0) (L.map setW), .map (.arr 2 .u64) (mapK (L.map keyS)), .box (.agg [.own 5, .own 6]), oL 4 eB 1 false A, oL 22 (eL eI 1 0) 1 [] Nx, .box (.p (ePlace ((plOf (parseS s)).getD q dPlace)))]) [(8, .p ((eA (eK .u64) 1 2) (setW (L.getD k noSet))))] [(10, vbool ((L.getD k noSet) q))] [2, 4, 10, 11, 12, 13, 14, 59, 60, 61] (by kernel_rfl) ?_ ?_
                  · refine al ?_ (al ?_ (al ?_ (al ?_ (al ?_ (al ?_ (al ?_ (al ?_ (al ?_ (al ?_ (al ?_ (al ?_ (al ?_ (al ?_ (al ?_ (trivial)))))))))))))))
                    · exact id
                    · exact id
                    · exact id
                    · exact id
                    · omega
                    · omega
                    · exact id
                    · omega
                    · (simp_all; done)
                    · exact id
                    · exact id
                    · intro _; exact setHas_ok _ _ (by omega)
                    · intro _; exact id
                    · exact id
                    · exact id
                  refine in_n ?_
                  refine tr_then ?_
                  refine tr_r (vc := [(IntKind.wrap .i64 (((q : Nat) : Int) + 1)) = (((q + 1) : Nat) : Int)]) (E' := [(2, none, .ref 0 []), (4, none, .p ((eL ePlace 3 dPlace) (plOf (parseS s)))), (10, none, .own 2), (11, none, .own 3), (12, none, .ref 4 []), (13, none, vint .i64 ((k : Nat) : Int)), (14, none, vbool ((acc (plOf (parseS s)) (L.getD k noSet) q) || ((((plOf (parseS s)).getD q dPlace).fEnd) && ((L.getD k noSet) q)))), (59, none, .p ((eL ePlace 3 dPlace) (plOf (parseS s)))), (60, none, vint .i64 (((plOf (parseS s)).length : Nat) : Int)), (61, none, vint .i64 (((q + 1) : Nat) : Int))]) (H' := [.box (.p (.agg [.v (.slice none 0 0), .v (.slice none 0 0)])), .box (.p ((eA (eK .u64) 1 2) (setW (startAt (stOf (parseS s)) n0)))), oL 67 (eA (eK .u64) 1 2) 2 (fun _ => 0) (L.map setW), .map (.arr 2 .u64) (mapK (L.map keyS)), .box (.agg [.own 5, .own 6]), oL 4 eB 1 false A, oL 22 (eL eI 1 0) 1 [] Nx, .box (.p (ePlace ((plOf (parseS s)).getD q dPlace)))]) [(0, vint .i64 (((q + 1) : Nat) : Int))] [] [2, 4, 10, 11, 12, 13, 14, 59, 60, 61] (by kernel_rfl) ?_ ?_
                  · refine al ?_ (trivial)
                    · exact wr64 (by omega) (by omega) (by omega)
                  refine lp_end (q + 1) ?_ ?_ ?_
                  · show ((q + 1) ≤ (plOf (parseS s)).length)
                    · omega
                  · show (plOf (parseS s)).length - (q + 1) < (plOf (parseS s)).length - q
                    omega
                  · intro A_ W_ hS
                    replace hS := sl_set (d := vbool ((acc (plOf (parseS s)) (L.getD k noSet) q) || ((((plOf (parseS s)).getD q dPlace).fEnd) && ((L.getD k noSet) q)))) 14 (vbool (acc (plOf (parseS s)) (L.getD k noSet) (q + 1))) (by kernel_rfl) (eqD_bool (by rfl)) hS
                    exact sl_weak (vc := [∀ i, i < (L.map setW).length → D.p ((eA (eK .u64) 1 2) ((L.map setW).getD i (fun _ => 0))) = .p ((eA (eK .u64) 1 2) ((L.map setW).getD i (fun _ => 0))), ∀ i, i < A.length → D.p (eB (A.getD i false)) = .p (eB (A.getD i false)), ∀ i, i < Nx.length → D.p ((eL eI 1 0) (Nx.getD i [])) = .p ((eL eI 1 0) (Nx.getD i []))]) [0, 1, 2, 3, 4, 5, 6] [2, 4, 10, 11, 12, 13, 14, 59, 60, 61] (by kernel_rfl) (al (fun _ _ => rfl) (al (fun _ _ => rfl) (al (fun _ _ => rfl) trivial))) hS
                · skip
                  refine tr_exit ?_
                  refine th_e ?_
                  refine th_e ?_
                  refine in_hit ?_
                  refine tr_then (tr_seq ?_)
                  refine tr_r (vc := [(0 : Int) ≤ 37, (37 : Int) ≤ 37, (8 : Int) * 37 ≤ 140737488355328, (37 : Int) ≤ 9223372036854775807]) (E' := [(2, none, .ref 0 []), (4, none, .p ((eL ePlace 3 dPlace) (plOf (parseS s)))), (10, none, .own 2), (11, none, .own 3), (12, none, .ref 4 []), (13, none, vint .i64 ((k : Nat) : Int)), (14, none, vbool (acc (plOf (parseS s)) (L.getD k noSet) q)), (17, none, .own 7)]) (H' := [.box (.p (.agg [.v (.slice none 0 0), .v (.slice none 0 0)])), .box (.p ((eA (eK .u64) 1 2) (setW (startAt (stOf (parseS s)) n0)))), oL 67 (eA (eK .u64) 1 2) 2 (fun _ => 0) (L.map setW), .map (.arr 2 .u64) (mapK (L.map keyS)), .box (.agg [.own 5, .own 6]), oL 4 eB 1 false A, oL 22 (eL eI 1 0) 1 [] Nx, .arr 3 1 37 (fun _ => vint .i64 0)]) [] [] [2, 4, 10, 11, 12, 13, 14, 17] (by kernel_rfl) ?_ ?_
                  · refine al ?_ (al ?_ (al ?_ (al ?_ (trivial))))
                    · omega
                    · omega
                    · omega
                    · omega
                  refine nm_pre (E' := [(2, none, .ref 0 []), (4, none, .p ((eL ePlace 3 dPlace) (plOf (parseS s)))), (10, none, .own 2), (11, none, .own 3), (12, none, .ref 4 []), (13, none, vint .i64 ((k : Nat) : Int)), (14, none, vbool (acc (plOf (parseS s)) (L.getD k noSet) q)), (17, none, .own 7)]) (H' := [.box (.p (.agg [.v (.slice none 0 0), .v (.slice none 0 0)])), .box (.p ((eA (eK .u64) 1 2) (setW (startAt (stOf (parseS s)) n0)))), oL 67 (eA (eK .u64) 1 2) 2 (fun _ => 0) (L.map setW), .map (.arr 2 .u64) (mapK (L.map keyS)), .box (.agg [.own 5, .own 6]), oL 4 eB 1 false A, oL 22 (eL eI 1 0) 1 [] Nx, oL 3 eI 1 0 (List.replicate 37 0)]) (fun A_ W_ hS => sl_arr (n := 37) (n' := (List.replicate 37 0).length) (f := fun _ => vint .i64 0) 7 (fun i => .p (eI ((List.replicate 37 0).getD i 0))) (by kernel_rfl) (by simp) (by exact makeN (e := eI) (d := 0)) hS) ?_
                  refine tr_then (tr_seq ?_)
                  refine tr_seq ?_
                  refine tr_r (vc := [(((List.replicate 37 0).length : Nat) : Int) = 37]) (E' := [(2, none, .ref 0 []), (4, none, .p ((eL ePlace 3 dPlace) (plOf (parseS s)))), (10, none, .own 2), (11, none, .own 3), (12, none, .ref 4 []), (13, none, vint .i64 ((k : Nat) : Int)), (14, none, vbool (acc (plOf (parseS s)) (L.getD k noSet) q)), (17, none, .own 7), (82, none, vint .i64 37), (83, none, vint .i64 0)]) (H' := [.box (.p (.agg [.v (.slice none 0 0), .v (.slice none 0 0)])), .box (.p ((eA (eK .u64) 1 2) (setW (startAt (stOf (parseS s)) n0)))), oL 67 (eA (eK .u64) 1 2) 2 (fun _ => 0) (L.map setW), .map (.arr 2 .u64) (mapK (L.map keyS)), .box (.agg [.own 5, .own 6]), oL 4 eB 1 false A, oL 22 (eL eI 1 0) 1 [] Nx, oL 3 eI 1 0 (List.replicate 37 0)]) [(1, vint .i64 37)] [] [2, 4, 10, 11, 12, 13, 14, 17, 82, 83] (by kernel_rfl) ?_ ?_
                  · refine al ?_ (trivial)
                    · rfl
                  refine tr_then ?_
                  refine tr_block ?_
                  refine tr_loop (α := Nat) (fun z : Nat => (fun (c : Nat) => [(2, none, .ref 0 []), (4, none, .p ((eL ePlace 3 dPlace) (plOf (parseS s)))), (10, none, .own 2), (11, none, .own 3), (12, none, .ref 4 []), (13, none, vint .i64 ((k : Nat) : Int)), (14, none, vbool (acc (plOf (parseS s)) (L.getD k noSet) q)), (17, none, .own 7), (82, none, vint .i64 37), (83, none, vint .i64 ((c : Nat) : Int))]) z) (fun z : Nat => (fun (c : Nat) => [.box (.p (.agg [.v (.slice none 0 0), .v (.slice none 0 0)])), .box (.p ((eA (eK .u64) 1 2) (setW (startAt (stOf (parseS s)) n0)))), oL 67 (eA (eK .u64) 1 2) 2 (fun _ => 0) ((rowAt (plOf (parseS s)) (L.getD k noSet) L c).1.map setW), .map (.arr 2 .u64) (mapK ((rowAt (plOf (parseS s)) (L.getD k noSet) L c).1.map keyS)), .box (.agg [.own 5, .own 6]), oL 4 eB 1 false A, oL 22 (eL eI 1 0) 1 [] Nx, oL 3 eI 1 0 (rowL (plOf (parseS s)) (L.getD k noSet) L c)]) z) (fun z : Nat => (fun (c : Nat) => (c ≤ 37)) z) (fun z : Nat => (fun (c : Nat) => 37 - c) z) 0 ?_ ?_ ?_
                  · show (0 ≤ 37)
                    · omega
                  · intro A_ W_ hS
                    replace hS := sl_set (d := vint .i64 0) 83 (vint .i64 ((0 : Nat) : Int)) (by kernel_rfl) (eqD_int (by omega)) hS
                    replace hS := sl_obj (o := .map (.arr 2 .u64) (mapK (L.map keyS))) 3 (.map (.arr 2 .u64) (mapK ((rowAt (plOf (parseS s)) (L.getD k noSet) L 0).1.map keyS))) (by kernel_rfl) (congrArg (O.map (.arr 2 .u64)) (a₁ := (mapK (L.map keyS))) (a₂ := (mapK ((rowAt (plOf (parseS s)) (L.getD k noSet) L 0).1.map keyS))) (by rfl)) hS
                    replace hS := sl_arr (e := 67) (sz := 2) (n := (L.map setW).length) (n' := ((rowAt (plOf (parseS s)) (L.getD k noSet) L 0).1.map setW).length) (f := (fun i => .p ((eA (eK .u64) 1 2) ((L.map setW).getD i (fun _ => 0))))) 2 (fun i => .p ((eA (eK .u64) 1 2) (((rowAt (plOf (parseS s)) (L.getD k noSet) L 0).1.map setW).getD i (fun _ => 0)))) (by kernel_rfl) (by rfl) (by intro j hj; rfl) hS
                    replace hS := sl_arr (e := 3) (sz := 1) (n := (List.replicate 37 0).length) (n' := (rowL (plOf (parseS s)) (L.getD k noSet) L 0).length) (f := (fun i => .p (eI ((List.replicate 37 0).getD i 0)))) 7 (fun i => .p (eI ((rowL (plOf (parseS s)) (L.getD k noSet) L 0).getD i 0))) (by kernel_rfl) (by rfl) (by intro j hj; rfl) hS
                    exact sl_weak (vc := [∀ i, i < ((rowAt (plOf (parseS s)) (L.getD k noSet) L 0).1.map setW).length → D.p ((eA (eK .u64) 1 2) (((rowAt (plOf (parseS s)) (L.getD k noSet) L 0).1.map setW).getD i (fun _ => 0))) = .p ((eA (eK .u64) 1 2) (((rowAt (plOf (parseS s)) (L.getD k noSet) L 0).1.map setW).getD i (fun _ => 0))), ∀ i, i < A.length → D.p (eB (A.getD i false)) = .p (eB (A.getD i false)), ∀ i, i < Nx.length → D.p ((eL eI 1 0) (Nx.getD i [])) = .p ((eL eI 1 0) (Nx.getD i [])), ∀ i, i < (rowL (plOf (parseS s)) (L.getD k noSet) L 0).length → D.p (eI ((rowL (plOf (parseS s)) (L.getD k noSet) L 0).getD i 0)) = .p (eI ((rowL (plOf (parseS s)) (L.getD k noSet) L 0).getD i 0))]) [0, 1, 2, 3, 4, 5, 6, 7] [2, 4, 10, 11, 12, 13, 14, 17, 82, 83] (by kernel_rfl) (al (fun _ _ => rfl) (al (fun _ _ => rfl) (al (fun _ _ => rfl) (al (fun _ _ => rfl) trivial)))) hS
                  · intro z hz
                    revert z; intro c hz
                    have hz : (c ≤ 37) := hz
                    have hi3_0 := hz
                    have hrc := rowAt_len (ps := (plOf (parseS s))) (S := L.getD k noSet) (L := L) (c := c)
                    have hg := rowAt_get (ps := (plOf (parseS s))) (S := L.getD k noSet) (L := L) (c := c) (k := k)
                    have hlc : ((rowAt (plOf (parseS s)) (L.getD k noSet) L c).1.map setW).length = (rowAt (plOf (parseS s)) (L.getD k noSet) L c).1.length := List.length_map ..
                    have hrl := rowL_len (ps := (plOf (parseS s))) (S := L.getD k noSet) (L := L) (c := c)
                    refine tr_seq ?_
                    refine tr_r (vc := []) (E' := [(2, none, .ref 0 []), (4, none, .p ((eL ePlace 3 dPlace) (plOf (parseS s)))), (10, none, .own 2), (11, none, .own 3), (12, none, .ref 4 []), (13, none, vint .i64 ((k : Nat) : Int)), (14, none, vbool (acc (plOf (parseS s)) (L.getD k noSet) q)), (17, none, .own 7), (82, none, vint .i64 37), (83, none, vint .i64 ((c : Nat) : Int)), (84, none, vbool (decide (((c : Nat) : Int) < 37)))]) (H' := [.box (.p (.agg [.v (.slice none 0 0), .v (.slice none 0 0)])), .box (.p ((eA (eK .u64) 1 2) (setW (startAt (stOf (parseS s)) n0)))), oL 67 (eA (eK .u64) 1 2) 2 (fun _ => 0) ((rowAt (plOf (parseS s)) (L.getD k noSet) L c).1.map setW), .map (.arr 2 .u64) (mapK ((rowAt (plOf (parseS s)) (L.getD k noSet) L c).1.map keyS)), .box (.agg [.own 5, .own 6]), oL 4 eB 1 false A, oL 22 (eL eI 1 0) 1 [] Nx, oL 3 eI 1 0 (rowL (plOf (parseS s)) (L.getD k noSet) L c)]) [] [] [2, 4, 10, 11, 12, 13, 14, 17, 82, 83, 84] (by kernel_rfl) ?_ ?_
                    · exact trivial
                    refine tr_then (tr_seq ?_)
                    refine tr_condP (decide (((c : Nat) : Int) < 37)) (((c : Nat) : Int) < 37) (by simp) (by kernel_rfl) (fun hc6 => ?_) (fun hc6 => ?_)
                    · skip
                      refine tr_skip ?_
                      refine tr_then (tr_seq ?_)
                      refine tr_block ?_
                      refine tr_seq ?_
                      refine tr_r (vc := []) (E' := [(2, none, .ref 0 []), (4, none, .p ((eL ePlace 3 dPlace) (plOf (parseS s)))), (10, none, .own 2), (11, none, .own 3), (12, none, .ref 4 []), (13, none, vint .i64 ((k : Nat) : Int)), (14, none, vbool (acc (plOf (parseS s)) (L.getD k noSet) q)), (17, none, .own 7), (18, none, vint .i64 ((c : Nat) : Int)), (82, none, vint .i64 37), (83, none, vint .i64 ((c : Nat) : Int))]) (H' := [.box (.p (.agg [.v (.slice none 0 0), .v (.slice none 0 0)])), .box (.p ((eA (eK .u64) 1 2) (setW (startAt (stOf (parseS s)) n0)))), oL 67 (eA (eK .u64) 1 2) 2 (fun _ => 0) ((rowAt (plOf (parseS s)) (L.getD k noSet) L c).1.map setW), .map (.arr 2 .u64) (mapK ((rowAt (plOf (parseS s)) (L.getD k noSet) L c).1.map keyS)), .box (.agg [.own 5, .own 6]), oL 4 eB 1 false A, oL 22 (eL eI 1 0) 1 [] Nx, oL 3 eI 1 0 (rowL (plOf (parseS s)) (L.getD k noSet) L c)]) [] [] [2, 4, 10, 11, 12, 13, 14, 17, 18, 82, 83] (by kernel_rfl) ?_ ?_
                      · exact trivial
                      refine tr_then (tr_seq ?_)
                      refine tr_r (vc := [(0 : Int) ≤ ((k : Nat) : Int), ((k : Nat) : Int) < (((rowAt (plOf (parseS s)) (L.getD k noSet) L c).1.map setW).length : Int), k < ((rowAt (plOf (parseS s)) (L.getD k noSet) L c).1.map setW).length, (.p ((eA (eK .u64) 1 2) (((rowAt (plOf (parseS s)) (L.getD k noSet) L c).1.map setW).getD k (fun _ => 0))) : D) = .p ((eA (eK .u64) 1 2) (setW (L.getD k noSet))), Pure Try.prog 35 [(eL ePlace 3 dPlace) (plOf (parseS s)), (eA (eK .u64) 1 2) (setW (L.getD k noSet)), .v (.int .i64 ((c : Nat) : Int))] (.p ((eA (eK .u64) 1 2) (setW (stepS (plOf (parseS s)) (L.getD k noSet) ((c : Nat) : Int)))))]) (E' := [(2, none, .ref 0 []), (4, none, .p ((eL ePlace 3 dPlace) (plOf (parseS s)))), (10, none, .own 2), (11, none, .own 3), (12, none, .ref 4 []), (13, none, vint .i64 ((k : Nat) : Int)), (14, none, vbool (acc (plOf (parseS s)) (L.getD k noSet) q)), (17, none, .own 7), (18, none, vint .i64 ((c : Nat) : Int)), (19, none, .ref 8 []), (82, none, vint .i64 37), (83, none, vint .i64 ((c : Nat) : Int))]) (H' := [.box (.p (.agg [.v (.slice none 0 0), .v (.slice none 0 0)])), .box (.p ((eA (eK .u64) 1 2) (setW (startAt (stOf (parseS s)) n0)))), oL 67 (eA (eK .u64) 1 2) 2 (fun _ => 0) ((rowAt (plOf (parseS s)) (L.getD k noSet) L c).1.map setW), .map (.arr 2 .u64) (mapK ((rowAt (plOf (parseS s)) (L.getD k noSet) L c).1.map keyS)), .box (.agg [.own 5, .own 6]), oL 4 eB 1 false A, oL 22 (eL eI 1 0) 1 [] Nx, oL 3 eI 1 0 (rowL (plOf (parseS s)) (L.getD k noSet) L c), .box (.p ((eA (eK .u64) 1 2) (setW (stepS (plOf (parseS s)) (L.getD k noSet) ((c : Nat) : Int)))))]) [(4, .p ((eA (eK .u64) 1 2) (setW (L.getD k noSet))))] [(6, .p ((eA (eK .u64) 1 2) (setW (stepS (plOf (parseS s)) (L.getD k noSet) ((c : Nat) : Int)))))] [2, 4, 10, 11, 12, 13, 14, 17, 18, 19, 82, 83] (by kernel_rfl) ?_ ?_
                      · refine al ?_ (al ?_ (al ?_ (al ?_ (al ?_ (trivial)))))
                        · omega
                        · omega
                        · omega
                        · grind
                        · exact step_ok _ _ _ (by omega) (by omega)
                      refine tr_then (tr_seq ?_)
                      refine tr_r (vc := [eqD (.p (((mapK ((rowAt (plOf (parseS s)) (L.getD k noSet) L c).1.map keyS)) ([(setW (stepS (plOf (parseS s)) (L.getD k noSet) ((c : Nat) : Int))) 0, (setW (stepS (plOf (parseS s)) (L.getD k noSet) ((c : Nat) : Int))) 1] : List Int)).getD (.v (.int .i64 0)))) (vint .i64 (idxV (stepS (plOf (parseS s)) (L.getD k noSet) c) (rowAt (plOf (parseS s)) (L.getD k noSet) L c).1)), (((mapK ((rowAt (plOf (parseS s)) (L.getD k noSet) L c).1.map keyS)) ([(setW (stepS (plOf (parseS s)) (L.getD k noSet) ((c : Nat) : Int))) 0, (setW (stepS (plOf (parseS s)) (L.getD k noSet) ((c : Nat) : Int))) 1] : List Int)).isSome) = ((idx (stepS (plOf (parseS s)) (L.getD k noSet) c) (rowAt (plOf (parseS s)) (L.getD k noSet) L c).1 0).isSome)]) (E' := [(2, none, .ref 0 []), (4, none, .p ((eL ePlace 3 dPlace) (plOf (parseS s)))), (10, none, .own 2), (11, none, .own 3), (12, none, .ref 4 []), (13, none, vint .i64 ((k : Nat) : Int)), (14, none, vbool (acc (plOf (parseS s)) (L.getD k noSet) q)), (17, none, .own 7), (18, none, vint .i64 ((c : Nat) : Int)), (19, none, .ref 8 []), (20, none, vint .i64 (idxV (stepS (plOf (parseS s)) (L.getD k noSet) c) (rowAt (plOf (parseS s)) (L.getD k noSet) L c).1)), (21, none, vbool ((idx (stepS (plOf (parseS s)) (L.getD k noSet) c) (rowAt (plOf (parseS s)) (L.getD k noSet) L c).1 0).isSome)), (82, none, vint .i64 37), (83, none, vint .i64 ((c : Nat) : Int))]) (H' := [.box (.p (.agg [.v (.slice none 0 0), .v (.slice none 0 0)])), .box (.p ((eA (eK .u64) 1 2) (setW (startAt (stOf (parseS s)) n0)))), oL 67 (eA (eK .u64) 1 2) 2 (fun _ => 0) ((rowAt (plOf (parseS s)) (L.getD k noSet) L c).1.map setW), .map (.arr 2 .u64) (mapK ((rowAt (plOf (parseS s)) (L.getD k noSet) L c).1.map keyS)), .box (.agg [.own 5, .own 6]), oL 4 eB 1 false A, oL 22 (eL eI 1 0) 1 [] Nx, oL 3 eI 1 0 (rowL (plOf (parseS s)) (L.getD k noSet) L c), .box (.p ((eA (eK .u64) 1 2) (setW (stepS (plOf (parseS s)) (L.getD k noSet) ((c : Nat) : Int)))))]) [(4, vint .i64 (idxV (stepS (plOf (parseS s)) (L.getD k noSet) c) (rowAt (plOf (parseS s)) (L.getD k noSet) L c).1)), (5, vbool ((idx (stepS (plOf (parseS s)) (L.getD k noSet) c) (rowAt (plOf (parseS s)) (L.getD k noSet) L c).1 0).isSome))] [] [2, 4, 10, 11, 12, 13, 14, 17, 18, 19, 20, 21, 82, 83] (by kernel_rfl) ?_ ?_
                      · refine al ?_ (al ?_ (trivial))
                        · exact look_v _ _
                        · exact look_b _ _
                      refine tr_then ?_
                      refine tr_join (α := Unit) (fun z : Unit => [(2, none, .ref 0 []), (4, none, .p ((eL ePlace 3 dPlace) (plOf (parseS s)))), (10, none, .own 2), (11, none, .own 3), (12, none, .ref 4 []), (13, none, vint .i64 ((k : Nat) : Int)), (14, none, vbool (acc (plOf (parseS s)) (L.getD k noSet) q)), (17, none, .own 7), (18, none, vint .i64 ((c : Nat) : Int)), (20, none, vint .i64 (atS (plOf (parseS s)) (L.getD k noSet) L c)), (82, none, vint .i64 37), (83, none, vint .i64 ((c : Nat) : Int))]) (fun z : Unit => [.box (.p (.agg [.v (.slice none 0 0), .v (.slice none 0 0)])), .box (.p ((eA (eK .u64) 1 2) (setW (startAt (stOf (parseS s)) n0)))), oL 67 (eA (eK .u64) 1 2) 2 (fun _ => 0) ((rowAt (plOf (parseS s)) (L.getD k noSet) L (c + 1)).1.map setW), .map (.arr 2 .u64) (mapK ((rowAt (plOf (parseS s)) (L.getD k noSet) L (c + 1)).1.map keyS)), .box (.agg [.own 5, .own 6]), oL 4 eB 1 false A, oL 22 (eL eI 1 0) 1 [] Nx, oL 3 eI 1 0 (rowL (plOf (parseS s)) (L.getD k noSet) L c), .box (.p ((eA (eK .u64) 1 2) (setW (stepS (plOf (parseS s)) (L.getD k noSet) ((c : Nat) : Int)))))]) (fun z : Unit => True) ?_ ?_
                      · intro z hz
                        refine tr_r (vc := [(0 : Int) ≤ ((c : Nat) : Int), ((c : Nat) : Int) < ((rowL (plOf (parseS s)) (L.getD k noSet) L c).length : Int), c < (rowL (plOf (parseS s)) (L.getD k noSet) L c).length]) (E' := [(2, none, .ref 0 []), (4, none, .p ((eL ePlace 3 dPlace) (plOf (parseS s)))), (10, none, .own 2), (11, none, .own 3), (12, none, .ref 4 []), (13, none, vint .i64 ((k : Nat) : Int)), (14, none, vbool (acc (plOf (parseS s)) (L.getD k noSet) q)), (17, none, .own 7), (82, none, vint .i64 37), (83, none, vint .i64 ((c : Nat) : Int))]) (H' := [.box (.p (.agg [.v (.slice none 0 0), .v (.slice none 0 0)])), .box (.p ((eA (eK .u64) 1 2) (setW (startAt (stOf (parseS s)) n0)))), oL 67 (eA (eK .u64) 1 2) 2 (fun _ => 0) ((rowAt (plOf (parseS s)) (L.getD k noSet) L (c + 1)).1.map setW), .map (.arr 2 .u64) (mapK ((rowAt (plOf (parseS s)) (L.getD k noSet) L (c + 1)).1.map keyS)), .box (.agg [.own 5, .own 6]), oL 4 eB 1 false A, oL 22 (eL eI 1 0) 1 [] Nx, .arr 3 1 ((rowL (plOf (parseS s)) (L.getD k noSet) L c).length) (upd (fun i => .p (eI ((rowL (plOf (parseS s)) (L.getD k noSet) L c).getD i 0))) c (vint .i64 (atS (plOf (parseS s)) (L.getD k noSet) L c))), .box (.p ((eA (eK .u64) 1 2) (setW (stepS (plOf (parseS s)) (L.getD k noSet) ((c : Nat) : Int)))))]) [] [] [2, 4, 10, 11, 12, 13, 14, 17, 82, 83] (by kernel_rfl) ?_ ?_
                        · refine al ?_ (al ?_ (al ?_ (trivial)))
                          · omega
                          · omega
                          · omega
                        refine nm_pre (E' := [(2, none, .ref 0 []), (4, none, .p ((eL ePlace 3 dPlace) (plOf (parseS s)))), (10, none, .own 2), (11, none, .own 3), (12, none, .ref 4 []), (13, none, vint .i64 ((k : Nat) : Int)), (14, none, vbool (acc (plOf (parseS s)) (L.getD k noSet) q)), (17, none, .own 7), (82, none, vint .i64 37), (83, none, vint .i64 ((c : Nat) : Int))]) (H' := [.box (.p (.agg [.v (.slice none 0 0), .v (.slice none 0 0)])), .box (.p ((eA (eK .u64) 1 2) (setW (startAt (stOf (parseS s)) n0)))), oL 67 (eA (eK .u64) 1 2) 2 (fun _ => 0) ((rowAt (plOf (parseS s)) (L.getD k noSet) L (c + 1)).1.map setW), .map (.arr 2 .u64) (mapK ((rowAt (plOf (parseS s)) (L.getD k noSet) L (c + 1)).1.map keyS)), .box (.agg [.own 5, .own 6]), oL 4 eB 1 false A, oL 22 (eL eI 1 0) 1 [] Nx, oL 3 eI 1 0 ((rowL (plOf (parseS s)) (L.getD k noSet) L c).set c (atS (plOf (parseS s)) (L.getD k noSet) L c)), .box (.p ((eA (eK .u64) 1 2) (setW (stepS (plOf (parseS s)) (L.getD k noSet) ((c : Nat) : Int)))))]) (fun A_ W_ hS => sl_arr (n := ((rowL (plOf (parseS s)) (L.getD k noSet) L c).length)) (n' := ((rowL (plOf (parseS s)) (L.getD k noSet) L c).set c (atS (plOf (parseS s)) (L.getD k noSet) L c)).length) (f := upd (fun i => .p (eI ((rowL (plOf (parseS s)) (L.getD k noSet) L c).getD i 0))) c (vint .i64 (atS (plOf (parseS s)) (L.getD k noSet) L c))) 7 (fun i => .p (eI (((rowL (plOf (parseS s)) (L.getD k noSet) L c).set c (atS (plOf (parseS s)) (L.getD k noSet) L c)).getD i 0))) (by kernel_rfl) (by simp) (by exact setN) hS) ?_
                        refine in_n ?_
                        refine tr_then ?_
                        refine tr_r (vc := [(IntKind.wrap .i64 (((c : Nat) : Int) + 1)) = (((c + 1) : Nat) : Int)]) (E' := [(2, none, .ref 0 []), (4, none, .p ((eL ePlace 3 dPlace) (plOf (parseS s)))), (10, none, .own 2), (11, none, .own 3), (12, none, .ref 4 []), (13, none, vint .i64 ((k : Nat) : Int)), (14, none, vbool (acc (plOf (parseS s)) (L.getD k noSet) q)), (17, none, .own 7), (82, none, vint .i64 37), (83, none, vint .i64 (((c + 1) : Nat) : Int))]) (H' := [.box (.p (.agg [.v (.slice none 0 0), .v (.slice none 0 0)])), .box (.p ((eA (eK .u64) 1 2) (setW (startAt (stOf (parseS s)) n0)))), oL 67 (eA (eK .u64) 1 2) 2 (fun _ => 0) ((rowAt (plOf (parseS s)) (L.getD k noSet) L (c + 1)).1.map setW), .map (.arr 2 .u64) (mapK ((rowAt (plOf (parseS s)) (L.getD k noSet) L (c + 1)).1.map keyS)), .box (.agg [.own 5, .own 6]), oL 4 eB 1 false A, oL 22 (eL eI 1 0) 1 [] Nx, oL 3 eI 1 0 ((rowL (plOf (parseS s)) (L.getD k noSet) L c).set c (atS (plOf (parseS s)) (L.getD k noSet) L c)), .box (.p ((eA (eK .u64) 1 2) (setW (stepS (plOf (parseS s)) (L.getD k noSet) ((c : Nat) : Int)))))]) [(0, vint .i64 (((c + 1) : Nat) : Int))] [] [2, 4, 10, 11, 12, 13, 14, 17, 82, 83] (by kernel_rfl) ?_ ?_
                        · refine al ?_ (trivial)
                          · exact wr64 (by omega) (by omega) (by omega)
                        refine lp_end (c + 1) ?_ ?_ ?_
                        · show ((c + 1) ≤ 37)
                          · omega
                        · show 37 - (c + 1) < 37 - c
                          omega
                        · intro A_ W_ hS
                          replace hS := sl_arr (e := 3) (sz := 1) (n := ((rowL (plOf (parseS s)) (L.getD k noSet) L c).set c (atS (plOf (parseS s)) (L.getD k noSet) L c)).length) (n' := (rowL (plOf (parseS s)) (L.getD k noSet) L (c + 1)).length) (f := (fun i => .p (eI (((rowL (plOf (parseS s)) (L.getD k noSet) L c).set c (atS (plOf (parseS s)) (L.getD k noSet) L c)).getD i 0)))) 7 (fun i => .p (eI ((rowL (plOf (parseS s)) (L.getD k noSet) L (c + 1)).getD i 0))) (by kernel_rfl) (by rw [row_set (by omega)]) (by intro j hj; rw [row_set (by omega)]) hS
                          exact sl_weak (vc := [∀ i, i < ((rowAt (plOf (parseS s)) (L.getD k noSet) L (c + 1)).1.map setW).length → D.p ((eA (eK .u64) 1 2) (((rowAt (plOf (parseS s)) (L.getD k noSet) L (c + 1)).1.map setW).getD i (fun _ => 0))) = .p ((eA (eK .u64) 1 2) (((rowAt (plOf (parseS s)) (L.getD k noSet) L (c + 1)).1.map setW).getD i (fun _ => 0))), ∀ i, i < A.length → D.p (eB (A.getD i false)) = .p (eB (A.getD i false)), ∀ i, i < Nx.length → D.p ((eL eI 1 0) (Nx.getD i [])) = .p ((eL eI 1 0) (Nx.getD i [])), ∀ i, i < (rowL (plOf (parseS s)) (L.getD k noSet) L (c + 1)).length → D.p (eI ((rowL (plOf (parseS s)) (L.getD k noSet) L (c + 1)).getD i 0)) = .p (eI ((rowL (plOf (parseS s)) (L.getD k noSet) L (c + 1)).getD i 0))]) [0, 1, 2, 3, 4, 5, 6, 7] [2, 4, 10, 11, 12, 13, 14, 17, 82, 83] (by kernel_rfl) (al (fun _ _ => rfl) (al (fun _ _ => rfl) (al (fun _ _ => rfl) (al (fun _ _ => rfl) trivial)))) hS
                      · skip
                        refine tr_seq ?_
                        refine tr_r (vc := []) (E' := [(2, none, .ref 0 []), (4, none, .p ((eL ePlace 3 dPlace) (plOf (parseS s)))), (10, none, .own 2), (11, none, .own 3), (12, none, .ref 4 []), (13, none, vint .i64 ((k : Nat) : Int)), (14, none, vbool (acc (plOf (parseS s)) (L.getD k noSet) q)), (17, none, .own 7), (18, none, vint .i64 ((c : Nat) : Int)), (19, none, .ref 8 []), (20, none, vint .i64 (idxV (stepS (plOf (parseS s)) (L.getD k noSet) c) (rowAt (plOf (parseS s)) (L.getD k noSet) L c).1)), (21, none, vbool ((idx (stepS (plOf (parseS s)) (L.getD k noSet) c) (rowAt (plOf (parseS s)) (L.getD k noSet) L c).1 0).isSome)), (82, none, vint .i64 37), (83, none, vint .i64 ((c : Nat) : Int)), (101, none, vbool (decide (([(setW (stepS (plOf (parseS s)) (L.getD k noSet) ((c : Nat) : Int))) 0, (setW (stepS (plOf (parseS s)) (L.getD k noSet) ((c : Nat) : Int))) 1] : List Int) = ([0, 0] : List Int))))]) (H' := [.box (.p (.agg [.v (.slice none 0 0), .v (.slice none 0 0)])), .box (.p ((eA (eK .u64) 1 2) (setW (startAt (stOf (parseS s)) n0)))), oL 67 (eA (eK .u64) 1 2) 2 (fun _ => 0) ((rowAt (plOf (parseS s)) (L.getD k noSet) L c).1.map setW), .map (.arr 2 .u64) (mapK ((rowAt (plOf (parseS s)) (L.getD k noSet) L c).1.map keyS)), .box (.agg [.own 5, .own 6]), oL 4 eB 1 false A, oL 22 (eL eI 1 0) 1 [] Nx, oL 3 eI 1 0 (rowL (plOf (parseS s)) (L.getD k noSet) L c), .box (.p ((eA (eK .u64) 1 2) (setW (stepS (plOf (parseS s)) (L.getD k noSet) ((c : Nat) : Int)))))]) [] [] [2, 4, 10, 11, 12, 13, 14, 17, 18, 19, 20, 21, 82, 83, 101] (by kernel_rfl) ?_ ?_
                        · exact trivial
                        refine tr_then ?_
                        refine tr_condP (decide (([(setW (stepS (plOf (parseS s)) (L.getD k noSet) ((c : Nat) : Int))) 0, (setW (stepS (plOf (parseS s)) (L.getD k noSet) ((c : Nat) : Int))) 1] : List Int) = ([0, 0] : List Int))) (([(setW (stepS (plOf (parseS s)) (L.getD k noSet) ((c : Nat) : Int))) 0, (setW (stepS (plOf (parseS s)) (L.getD k noSet) ((c : Nat) : Int))) 1] : List Int) = ([0, 0] : List Int)) (by simp) (by kernel_rfl) (fun hc7 => ?_) (fun hc7 => ?_)
                        · skip
                          refine tr_r (vc := []) (E' := [(2, none, .ref 0 []), (4, none, .p ((eL ePlace 3 dPlace) (plOf (parseS s)))), (10, none, .own 2), (11, none, .own 3), (12, none, .ref 4 []), (13, none, vint .i64 ((k : Nat) : Int)), (14, none, vbool (acc (plOf (parseS s)) (L.getD k noSet) q)), (17, none, .own 7), (18, none, vint .i64 ((c : Nat) : Int)), (20, none, vint .i64 (-1)), (82, none, vint .i64 37), (83, none, vint .i64 ((c : Nat) : Int))]) (H' := [.box (.p (.agg [.v (.slice none 0 0), .v (.slice none 0 0)])), .box (.p ((eA (eK .u64) 1 2) (setW (startAt (stOf (parseS s)) n0)))), oL 67 (eA (eK .u64) 1 2) 2 (fun _ => 0) ((rowAt (plOf (parseS s)) (L.getD k noSet) L c).1.map setW), .map (.arr 2 .u64) (mapK ((rowAt (plOf (parseS s)) (L.getD k noSet) L c).1.map keyS)), .box (.agg [.own 5, .own 6]), oL 4 eB 1 false A, oL 22 (eL eI 1 0) 1 [] Nx, oL 3 eI 1 0 (rowL (plOf (parseS s)) (L.getD k noSet) L c), .box (.p ((eA (eK .u64) 1 2) (setW (stepS (plOf (parseS s)) (L.getD k noSet) ((c : Nat) : Int)))))]) [] [] [2, 4, 10, 11, 12, 13, 14, 17, 18, 20, 82, 83] (by kernel_rfl) ?_ ?_
                          · exact trivial
                          refine jn_end () ?_ ?_
                          · exact trivial
                          · intro A_ W_ hS
                            replace hS := sl_set (d := vint .i64 (-1)) 20 (vint .i64 (atS (plOf (parseS s)) (L.getD k noSet) L c)) (by kernel_rfl) (eqD_int (by first | exact (rowAt_0 hc7).2.symm | (rw [(rowAt_n hc7 hc8).2.1, List.length_map]) | exact (rowAt_i hc7 (eq_true_of_ne_false hc8)).2.symm)) hS
                            replace hS := sl_obj (o := .map (.arr 2 .u64) (mapK ((rowAt (plOf (parseS s)) (L.getD k noSet) L c).1.map keyS))) 3 (.map (.arr 2 .u64) (mapK ((rowAt (plOf (parseS s)) (L.getD k noSet) L (c + 1)).1.map keyS))) (by kernel_rfl) (congrArg (O.map (.arr 2 .u64)) (a₁ := (mapK ((rowAt (plOf (parseS s)) (L.getD k noSet) L c).1.map keyS))) (a₂ := (mapK ((rowAt (plOf (parseS s)) (L.getD k noSet) L (c + 1)).1.map keyS))) (by first | (rw [(rowAt_0 hc7).1]) | (rw [(rowAt_n hc7 hc8).1, List.length_map]; exact mapK_next (rowAt_n hc7 hc8).2.2) | (rw [(rowAt_i hc7 (eq_true_of_ne_false hc8)).1]))) hS
                            replace hS := sl_arr (e := 67) (sz := 2) (n := ((rowAt (plOf (parseS s)) (L.getD k noSet) L c).1.map setW).length) (n' := ((rowAt (plOf (parseS s)) (L.getD k noSet) L (c + 1)).1.map setW).length) (f := (fun i => .p ((eA (eK .u64) 1 2) (((rowAt (plOf (parseS s)) (L.getD k noSet) L c).1.map setW).getD i (fun _ => 0))))) 2 (fun i => .p ((eA (eK .u64) 1 2) (((rowAt (plOf (parseS s)) (L.getD k noSet) L (c + 1)).1.map setW).getD i (fun _ => 0)))) (by kernel_rfl) (by first | (rw [(rowAt_0 hc7).1]) | (rw [(rowAt_n hc7 hc8).1, List.map_append]; rfl) | (rw [(rowAt_i hc7 (eq_true_of_ne_false hc8)).1])) (by intro j hj; first | (rw [(rowAt_0 hc7).1]; done) | (rw [(rowAt_n hc7 hc8).1, List.map_append]; done) | (rw [(rowAt_n hc7 hc8).1, List.map_append]; rfl) | (rw [(rowAt_i hc7 (eq_true_of_ne_false hc8)).1])) hS
                            exact sl_weak (vc := [∀ i, i < ((rowAt (plOf (parseS s)) (L.getD k noSet) L (c + 1)).1.map setW).length → D.p ((eA (eK .u64) 1 2) (((rowAt (plOf (parseS s)) (L.getD k noSet) L (c + 1)).1.map setW).getD i (fun _ => 0))) = .p ((eA (eK .u64) 1 2) (((rowAt (plOf (parseS s)) (L.getD k noSet) L (c + 1)).1.map setW).getD i (fun _ => 0))), ∀ i, i < A.length → D.p (eB (A.getD i false)) = .p (eB (A.getD i false)), ∀ i, i < Nx.length → D.p ((eL eI 1 0) (Nx.getD i [])) = .p ((eL eI 1 0) (Nx.getD i [])), ∀ i, i < (rowL (plOf (parseS s)) (L.getD k noSet) L c).length → D.p (eI ((rowL (plOf (parseS s)) (L.getD k noSet) L c).getD i 0)) = .p (eI ((rowL (plOf (parseS s)) (L.getD k noSet) L c).getD i 0))]) [0, 1, 2, 3, 4, 5, 6, 7, 8] [2, 4, 10, 11, 12, 13, 14, 17, 18, 20, 82, 83] (by kernel_rfl) (al (fun _ _ => rfl) (al (fun _ _ => rfl) (al (fun _ _ => rfl) (al (fun _ _ => rfl) trivial)))) hS
                        · skip
                          refine tr_seq ?_
                          refine tr_r (vc := []) (E' := [(2, none, .ref 0 []), (4, none, .p ((eL ePlace 3 dPlace) (plOf (parseS s)))), (10, none, .own 2), (11, none, .own 3), (12, none, .ref 4 []), (13, none, vint .i64 ((k : Nat) : Int)), (14, none, vbool (acc (plOf (parseS s)) (L.getD k noSet) q)), (17, none, .own 7), (18, none, vint .i64 ((c : Nat) : Int)), (19, none, .ref 8 []), (20, none, vint .i64 (idxV (stepS (plOf (parseS s)) (L.getD k noSet) c) (rowAt (plOf (parseS s)) (L.getD k noSet) L c).1)), (82, none, vint .i64 37), (83, none, vint .i64 ((c : Nat) : Int)), (103, none, vbool (!((idx (stepS (plOf (parseS s)) (L.getD k noSet) c) (rowAt (plOf (parseS s)) (L.getD k noSet) L c).1 0).isSome)))]) (H' := [.box (.p (.agg [.v (.slice none 0 0), .v (.slice none 0 0)])), .box (.p ((eA (eK .u64) 1 2) (setW (startAt (stOf (parseS s)) n0)))), oL 67 (eA (eK .u64) 1 2) 2 (fun _ => 0) ((rowAt (plOf (parseS s)) (L.getD k noSet) L c).1.map setW), .map (.arr 2 .u64) (mapK ((rowAt (plOf (parseS s)) (L.getD k noSet) L c).1.map keyS)), .box (.agg [.own 5, .own 6]), oL 4 eB 1 false A, oL 22 (eL eI 1 0) 1 [] Nx, oL 3 eI 1 0 (rowL (plOf (parseS s)) (L.getD k noSet) L c), .box (.p ((eA (eK .u64) 1 2) (setW (stepS (plOf (parseS s)) (L.getD k noSet) ((c : Nat) : Int)))))]) [] [] [2, 4, 10, 11, 12, 13, 14, 17, 18, 19, 20, 82, 83, 103] (by kernel_rfl) ?_ ?_
                          · exact trivial
                          refine tr_then ?_
                          refine tr_condP (!((idx (stepS (plOf (parseS s)) (L.getD k noSet) c) (rowAt (plOf (parseS s)) (L.getD k noSet) L c).1 0).isSome)) (((idx (stepS (plOf (parseS s)) (L.getD k noSet) c) (rowAt (plOf (parseS s)) (L.getD k noSet) L c).1 0).isSome) = false) (by simp) (by kernel_rfl) (fun hc8 => ?_) (fun hc8 => ?_)
                          · skip
                            refine tr_seq ?_
                            refine tr_r (vc := []) (E' := [(2, none, .ref 0 []), (4, none, .p ((eL ePlace 3 dPlace) (plOf (parseS s)))), (10, none, .own 2), (11, none, .own 3), (12, none, .ref 4 []), (13, none, vint .i64 ((k : Nat) : Int)), (14, none, vbool (acc (plOf (parseS s)) (L.getD k noSet) q)), (17, none, .own 7), (18, none, vint .i64 ((c : Nat) : Int)), (19, none, .ref 8 []), (20, none, vint .i64 ((((rowAt (plOf (parseS s)) (L.getD k noSet) L c).1.map setW).length : Nat) : Int)), (82, none, vint .i64 37), (83, none, vint .i64 ((c : Nat) : Int))]) (H' := [.box (.p (.agg [.v (.slice none 0 0), .v (.slice none 0 0)])), .box (.p ((eA (eK .u64) 1 2) (setW (startAt (stOf (parseS s)) n0)))), oL 67 (eA (eK .u64) 1 2) 2 (fun _ => 0) ((rowAt (plOf (parseS s)) (L.getD k noSet) L c).1.map setW), .map (.arr 2 .u64) (mapK ((rowAt (plOf (parseS s)) (L.getD k noSet) L c).1.map keyS)), .box (.agg [.own 5, .own 6]), oL 4 eB 1 false A, oL 22 (eL eI 1 0) 1 [] Nx, oL 3 eI 1 0 (rowL (plOf (parseS s)) (L.getD k noSet) L c), .box (.p ((eA (eK .u64) 1 2) (setW (stepS (plOf (parseS s)) (L.getD k noSet) ((c : Nat) : Int)))))]) [] [] [2, 4, 10, 11, 12, 13, 14, 17, 18, 19, 20, 82, 83] (by kernel_rfl) ?_ ?_
                            · exact trivial
                            refine tr_then (tr_seq ?_)
                            refine tr_r (vc := []) (E' := [(2, none, .ref 0 []), (4, none, .p ((eL ePlace 3 dPlace) (plOf (parseS s)))), (10, none, .own 2), (11, none, .own 3), (12, none, .ref 4 []), (13, none, vint .i64 ((k : Nat) : Int)), (14, none, vbool (acc (plOf (parseS s)) (L.getD k noSet) q)), (17, none, .own 7), (18, none, vint .i64 ((c : Nat) : Int)), (19, none, .ref 8 []), (20, none, vint .i64 ((((rowAt (plOf (parseS s)) (L.getD k noSet) L c).1.map setW).length : Nat) : Int)), (82, none, vint .i64 37), (83, none, vint .i64 ((c : Nat) : Int))]) (H' := [.box (.p (.agg [.v (.slice none 0 0), .v (.slice none 0 0)])), .box (.p ((eA (eK .u64) 1 2) (setW (startAt (stOf (parseS s)) n0)))), oL 67 (eA (eK .u64) 1 2) 2 (fun _ => 0) ((rowAt (plOf (parseS s)) (L.getD k noSet) L c).1.map setW), .map (.arr 2 .u64) (setMap (mapK ((rowAt (plOf (parseS s)) (L.getD k noSet) L c).1.map keyS)) ([(setW (stepS (plOf (parseS s)) (L.getD k noSet) ((c : Nat) : Int))) 0, (setW (stepS (plOf (parseS s)) (L.getD k noSet) ((c : Nat) : Int))) 1] : List Int) (.v (.int .i64 ((((rowAt (plOf (parseS s)) (L.getD k noSet) L c).1.map setW).length : Nat) : Int)))), .box (.agg [.own 5, .own 6]), oL 4 eB 1 false A, oL 22 (eL eI 1 0) 1 [] Nx, oL 3 eI 1 0 (rowL (plOf (parseS s)) (L.getD k noSet) L c), .box (.p ((eA (eK .u64) 1 2) (setW (stepS (plOf (parseS s)) (L.getD k noSet) ((c : Nat) : Int)))))]) [] [] [2, 4, 10, 11, 12, 13, 14, 17, 18, 19, 20, 82, 83] (by kernel_rfl) ?_ ?_
                            · exact trivial
                            refine tr_then ?_
                            refine tr_r (vc := [∀ j, j < 1 → ([(eA (eK .u64) 1 2) (setW (stepS (plOf (parseS s)) (L.getD k noSet) ((c : Nat) : Int)))] : List PV).getD j default = (fun i => (eA (eK .u64) 1 2) (([(setW (stepS (plOf (parseS s)) (L.getD k noSet) ((c : Nat) : Int)))]).getD i (fun _ => 0))) j, ((((rowAt (plOf (parseS s)) (L.getD k noSet) L c).1.map setW).length) + (([(setW (stepS (plOf (parseS s)) (L.getD k noSet) ((c : Nat) : Int)))]).length)) * 16 ≤ 140737488355328]) (E' := [(2, none, .ref 0 []), (4, none, .p ((eL ePlace 3 dPlace) (plOf (parseS s)))), (10, none, .own 9), (11, none, .own 3), (12, none, .ref 4 []), (13, none, vint .i64 ((k : Nat) : Int)), (14, none, vbool (acc (plOf (parseS s)) (L.getD k noSet) q)), (17, none, .own 7), (18, none, vint .i64 ((c : Nat) : Int)), (20, none, vint .i64 ((((rowAt (plOf (parseS s)) (L.getD k noSet) L c).1.map setW).length : Nat) : Int)), (82, none, vint .i64 37), (83, none, vint .i64 ((c : Nat) : Int))]) (H' := [.box (.p (.agg [.v (.slice none 0 0), .v (.slice none 0 0)])), .box (.p ((eA (eK .u64) 1 2) (setW (startAt (stOf (parseS s)) n0)))), .dead, .map (.arr 2 .u64) (setMap (mapK ((rowAt (plOf (parseS s)) (L.getD k noSet) L c).1.map keyS)) ([(setW (stepS (plOf (parseS s)) (L.getD k noSet) ((c : Nat) : Int))) 0, (setW (stepS (plOf (parseS s)) (L.getD k noSet) ((c : Nat) : Int))) 1] : List Int) (.v (.int .i64 ((((rowAt (plOf (parseS s)) (L.getD k noSet) L c).1.map setW).length : Nat) : Int)))), .box (.agg [.own 5, .own 6]), oL 4 eB 1 false A, oL 22 (eL eI 1 0) 1 [] Nx, oL 3 eI 1 0 (rowL (plOf (parseS s)) (L.getD k noSet) L c), .box (.p ((eA (eK .u64) 1 2) (setW (stepS (plOf (parseS s)) (L.getD k noSet) ((c : Nat) : Int))))), .arr 67 2 (((rowAt (plOf (parseS s)) (L.getD k noSet) L c).1.map setW).length + ([(setW (stepS (plOf (parseS s)) (L.getD k noSet) ((c : Nat) : Int)))]).length) (appF (fun i => .p ((eA (eK .u64) 1 2) (((rowAt (plOf (parseS s)) (L.getD k noSet) L c).1.map setW).getD i (fun _ => 0)))) (((rowAt (plOf (parseS s)) (L.getD k noSet) L c).1.map setW).length) (fun j => .p ((eA (eK .u64) 1 2) (([(setW (stepS (plOf (parseS s)) (L.getD k noSet) ((c : Nat) : Int)))]).getD j (fun _ => 0)))))]) [] [(2, .p ((eL (eA (eK .u64) 1 2) 2 (fun _ => 0)) ([(setW (stepS (plOf (parseS s)) (L.getD k noSet) ((c : Nat) : Int)))])))] [2, 4, 10, 11, 12, 13, 14, 17, 18, 20, 82, 83] (by kernel_rfl) ?_ ?_
                            · refine al ?_ (al ?_ (trivial))
                              · exact lit_pv (e := (eA (eK .u64) 1 2)) (d := (fun _ => 0)) (l := [(setW (stepS (plOf (parseS s)) (L.getD k noSet) ((c : Nat) : Int)))])
                              · (simp_all; omega)
                            refine nm_pre (E' := [(2, none, .ref 0 []), (4, none, .p ((eL ePlace 3 dPlace) (plOf (parseS s)))), (10, none, .own 9), (11, none, .own 3), (12, none, .ref 4 []), (13, none, vint .i64 ((k : Nat) : Int)), (14, none, vbool (acc (plOf (parseS s)) (L.getD k noSet) q)), (17, none, .own 7), (18, none, vint .i64 ((c : Nat) : Int)), (20, none, vint .i64 ((((rowAt (plOf (parseS s)) (L.getD k noSet) L c).1.map setW).length : Nat) : Int)), (82, none, vint .i64 37), (83, none, vint .i64 ((c : Nat) : Int))]) (H' := [.box (.p (.agg [.v (.slice none 0 0), .v (.slice none 0 0)])), .box (.p ((eA (eK .u64) 1 2) (setW (startAt (stOf (parseS s)) n0)))), .dead, .map (.arr 2 .u64) (setMap (mapK ((rowAt (plOf (parseS s)) (L.getD k noSet) L c).1.map keyS)) ([(setW (stepS (plOf (parseS s)) (L.getD k noSet) ((c : Nat) : Int))) 0, (setW (stepS (plOf (parseS s)) (L.getD k noSet) ((c : Nat) : Int))) 1] : List Int) (.v (.int .i64 ((((rowAt (plOf (parseS s)) (L.getD k noSet) L c).1.map setW).length : Nat) : Int)))), .box (.agg [.own 5, .own 6]), oL 4 eB 1 false A, oL 22 (eL eI 1 0) 1 [] Nx, oL 3 eI 1 0 (rowL (plOf (parseS s)) (L.getD k noSet) L c), .box (.p ((eA (eK .u64) 1 2) (setW (stepS (plOf (parseS s)) (L.getD k noSet) ((c : Nat) : Int))))), oL 67 (eA (eK .u64) 1 2) 2 (fun _ => 0) (((rowAt (plOf (parseS s)) (L.getD k noSet) L c).1.map setW) ++ ([(setW (stepS (plOf (parseS s)) (L.getD k noSet) ((c : Nat) : Int)))]))]) (fun A_ W_ hS => sl_arr (n := (((rowAt (plOf (parseS s)) (L.getD k noSet) L c).1.map setW).length + ([(setW (stepS (plOf (parseS s)) (L.getD k noSet) ((c : Nat) : Int)))]).length)) (n' := (((rowAt (plOf (parseS s)) (L.getD k noSet) L c).1.map setW) ++ ([(setW (stepS (plOf (parseS s)) (L.getD k noSet) ((c : Nat) : Int)))])).length) (f := appF (fun i => .p ((eA (eK .u64) 1 2) (((rowAt (plOf (parseS s)) (L.getD k noSet) L c).1.map setW).getD i (fun _ => 0)))) (((rowAt (plOf (parseS s)) (L.getD k noSet) L c).1.map setW).length) (fun j => .p ((eA (eK .u64) 1 2) (([(setW (stepS (plOf (parseS s)) (L.getD k noSet) ((c : Nat) : Int)))]).getD j (fun _ => 0))))) 9 (fun i => .p ((eA (eK .u64) 1 2) ((((rowAt (plOf (parseS s)) (L.getD k noSet) L c).1.map setW) ++ ([(setW (stepS (plOf (parseS s)) (L.getD k noSet) ((c : Nat) : Int)))])).getD i (fun _ => 0)))) (by kernel_rfl) (by simp) (by first | exact appN | exact nilN | exact app0 | exact nilV _) hS) ?_
                            refine jn_end () ?_ ?_
                            · exact trivial
                            · intro A_ W_ hS
                              replace hS := sl_set (d := vint .i64 ((((rowAt (plOf (parseS s)) (L.getD k noSet) L c).1.map setW).length : Nat) : Int)) 20 (vint .i64 (atS (plOf (parseS s)) (L.getD k noSet) L c)) (by kernel_rfl) (eqD_int (by first | exact (rowAt_0 hc7).2.symm | (rw [(rowAt_n hc7 hc8).2.1, List.length_map]) | exact (rowAt_i hc7 (eq_true_of_ne_false hc8)).2.symm)) hS
                              replace hS := sl_obj (o := .map (.arr 2 .u64) (setMap (mapK ((rowAt (plOf (parseS s)) (L.getD k noSet) L c).1.map keyS)) ([(setW (stepS (plOf (parseS s)) (L.getD k noSet) ((c : Nat) : Int))) 0, (setW (stepS (plOf (parseS s)) (L.getD k noSet) ((c : Nat) : Int))) 1] : List Int) (.v (.int .i64 ((((rowAt (plOf (parseS s)) (L.getD k noSet) L c).1.map setW).length : Nat) : Int))))) 3 (.map (.arr 2 .u64) (mapK ((rowAt (plOf (parseS s)) (L.getD k noSet) L (c + 1)).1.map keyS))) (by kernel_rfl) (congrArg (O.map (.arr 2 .u64)) (a₁ := (setMap (mapK ((rowAt (plOf (parseS s)) (L.getD k noSet) L c).1.map keyS)) ([(setW (stepS (plOf (parseS s)) (L.getD k noSet) ((c : Nat) : Int))) 0, (setW (stepS (plOf (parseS s)) (L.getD k noSet) ((c : Nat) : Int))) 1] : List Int) (.v (.int .i64 ((((rowAt (plOf (parseS s)) (L.getD k noSet) L c).1.map setW).length : Nat) : Int))))) (a₂ := (mapK ((rowAt (plOf (parseS s)) (L.getD k noSet) L (c + 1)).1.map keyS))) (by first | (rw [(rowAt_0 hc7).1]) | (rw [(rowAt_n hc7 hc8).1, List.length_map]; exact mapK_next (rowAt_n hc7 hc8).2.2) | (rw [(rowAt_i hc7 (eq_true_of_ne_false hc8)).1]))) hS
                              replace hS := sl_arr (e := 67) (sz := 2) (n := (((rowAt (plOf (parseS s)) (L.getD k noSet) L c).1.map setW) ++ ([(setW (stepS (plOf (parseS s)) (L.getD k noSet) ((c : Nat) : Int)))])).length) (n' := ((rowAt (plOf (parseS s)) (L.getD k noSet) L (c + 1)).1.map setW).length) (f := (fun i => .p ((eA (eK .u64) 1 2) ((((rowAt (plOf (parseS s)) (L.getD k noSet) L c).1.map setW) ++ ([(setW (stepS (plOf (parseS s)) (L.getD k noSet) ((c : Nat) : Int)))])).getD i (fun _ => 0))))) 9 (fun i => .p ((eA (eK .u64) 1 2) (((rowAt (plOf (parseS s)) (L.getD k noSet) L (c + 1)).1.map setW).getD i (fun _ => 0)))) (by kernel_rfl) (by first | (rw [(rowAt_0 hc7).1]) | (rw [(rowAt_n hc7 hc8).1, List.map_append]; rfl) | (rw [(rowAt_i hc7 (eq_true_of_ne_false hc8)).1])) (by intro j hj; first | (rw [(rowAt_0 hc7).1]; done) | (rw [(rowAt_n hc7 hc8).1, List.map_append]; done) | (rw [(rowAt_n hc7 hc8).1, List.map_append]; rfl) | (rw [(rowAt_i hc7 (eq_true_of_ne_false hc8)).1])) hS
                              exact sl_weak (vc := [∀ i, i < ((rowAt (plOf (parseS s)) (L.getD k noSet) L (c + 1)).1.map setW).length → D.p ((eA (eK .u64) 1 2) (((rowAt (plOf (parseS s)) (L.getD k noSet) L (c + 1)).1.map setW).getD i (fun _ => 0))) = .p ((eA (eK .u64) 1 2) (((rowAt (plOf (parseS s)) (L.getD k noSet) L (c + 1)).1.map setW).getD i (fun _ => 0))), ∀ i, i < A.length → D.p (eB (A.getD i false)) = .p (eB (A.getD i false)), ∀ i, i < Nx.length → D.p ((eL eI 1 0) (Nx.getD i [])) = .p ((eL eI 1 0) (Nx.getD i [])), ∀ i, i < (rowL (plOf (parseS s)) (L.getD k noSet) L c).length → D.p (eI ((rowL (plOf (parseS s)) (L.getD k noSet) L c).getD i 0)) = .p (eI ((rowL (plOf (parseS s)) (L.getD k noSet) L c).getD i 0))]) [0, 1, 9, 3, 4, 5, 6, 7, 8] [2, 4, 10, 11, 12, 13, 14, 17, 18, 20, 82, 83] (by kernel_rfl) (al (fun _ _ => rfl) (al (fun _ _ => rfl) (al (fun _ _ => rfl) (al (fun _ _ => rfl) trivial)))) hS
                          · skip
                            refine tr_skip ?_
                            refine jn_end () ?_ ?_
                            · exact trivial
                            · intro A_ W_ hS
                              replace hS := sl_set (d := vint .i64 (idxV (stepS (plOf (parseS s)) (L.getD k noSet) c) (rowAt (plOf (parseS s)) (L.getD k noSet) L c).1)) 20 (vint .i64 (atS (plOf (parseS s)) (L.getD k noSet) L c)) (by kernel_rfl) (eqD_int (by first | exact (rowAt_0 hc7).2.symm | (rw [(rowAt_n hc7 hc8).2.1, List.length_map]) | exact (rowAt_i hc7 (eq_true_of_ne_false hc8)).2.symm)) hS
                              replace hS := sl_obj (o := .map (.arr 2 .u64) (mapK ((rowAt (plOf (parseS s)) (L.getD k noSet) L c).1.map keyS))) 3 (.map (.arr 2 .u64) (mapK ((rowAt (plOf (parseS s)) (L.getD k noSet) L (c + 1)).1.map keyS))) (by kernel_rfl) (congrArg (O.map (.arr 2 .u64)) (a₁ := (mapK ((rowAt (plOf (parseS s)) (L.getD k noSet) L c).1.map keyS))) (a₂ := (mapK ((rowAt (plOf (parseS s)) (L.getD k noSet) L (c + 1)).1.map keyS))) (by first | (rw [(rowAt_0 hc7).1]) | (rw [(rowAt_n hc7 hc8).1, List.length_map]; exact mapK_next (rowAt_n hc7 hc8).2.2) | (rw [(rowAt_i hc7 (eq_true_of_ne_false hc8)).1]))) hS
                              replace hS := sl_arr (e := 67) (sz := 2) (n := ((rowAt (plOf (parseS s)) (L.getD k noSet) L c).1.map setW).length) (n' := ((rowAt (plOf (parseS s)) (L.getD k noSet) L (c + 1)).1.map setW).length) (f := (fun i => .p ((eA (eK .u64) 1 2) (((rowAt (plOf (parseS s)) (L.getD k noSet) L c).1.map setW).getD i (fun _ => 0))))) 2 (fun i => .p ((eA (eK .u64) 1 2) (((rowAt (plOf (parseS s)) (L.getD k noSet) L (c + 1)).1.map setW).getD i (fun _ => 0)))) (by kernel_rfl) (by first | (rw [(rowAt_0 hc7).1]) | (rw [(rowAt_n hc7 hc8).1, List.map_append]; rfl) | (rw [(rowAt_i hc7 (eq_true_of_ne_false hc8)).1])) (by intro j hj; first | (rw [(rowAt_0 hc7).1]; done) | (rw [(rowAt_n hc7 hc8).1, List.map_append]; done) | (rw [(rowAt_n hc7 hc8).1, List.map_append]; rfl) | (rw [(rowAt_i hc7 (eq_true_of_ne_false hc8)).1])) hS
                              exact sl_weak (vc := [∀ i, i < ((rowAt (plOf (parseS s)) (L.getD k noSet) L (c + 1)).1.map setW).length → D.p ((eA (eK .u64) 1 2) (((rowAt (plOf (parseS s)) (L.getD k noSet) L (c + 1)).1.map setW).getD i (fun _ => 0))) = .p ((eA (eK .u64) 1 2) (((rowAt (plOf (parseS s)) (L.getD k noSet) L (c + 1)).1.map setW).getD i (fun _ => 0))), ∀ i, i < A.length → D.p (eB (A.getD i false)) = .p (eB (A.getD i false)), ∀ i, i < Nx.length → D.p ((eL eI 1 0) (Nx.getD i [])) = .p ((eL eI 1 0) (Nx.getD i [])), ∀ i, i < (rowL (plOf (parseS s)) (L.getD k noSet) L c).length → D.p (eI ((rowL (plOf (parseS s)) (L.getD k noSet) L c).getD i 0)) = .p (eI ((rowL (plOf (parseS s)) (L.getD k noSet) L c).getD i 0))]) [0, 1, 2, 3, 4, 5, 6, 7, 8] [2, 4, 10, 11, 12, 13, 14, 17, 18, 20, 82, 83] (by kernel_rfl) (al (fun _ _ => rfl) (al (fun _ _ => rfl) (al (fun _ _ => rfl) (al (fun _ _ => rfl) trivial)))) hS
                    · skip
                      refine tr_exit ?_
                      refine th_e ?_
                      refine th_e ?_
                      refine in_hit ?_
                      refine tr_then (tr_seq ?_)
                      refine tr_pre (E' := [(2, none, .ref 0 []), (4, none, .p ((eL ePlace 3 dPlace) (plOf (parseS s)))), (10, none, .own 2), (11, none, .own 3), (12, none, .ref 4 []), (13, none, vint .i64 ((k : Nat) : Int)), (14, none, vbool (acc (plOf (parseS s)) (L.getD k noSet) q)), (17, none, .p ((eL eI 1 0) (rowL (plOf (parseS s)) (L.getD k noSet) L c))), (82, none, vint .i64 37), (83, none, vint .i64 ((c : Nat) : Int)), (84, none, vbool (decide (((c : Nat) : Int) < 37)))]) (H' := [.box (.p (.agg [.v (.slice none 0 0), .v (.slice none 0 0)])), .box (.p ((eA (eK .u64) 1 2) (setW (startAt (stOf (parseS s)) n0)))), oL 67 (eA (eK .u64) 1 2) 2 (fun _ => 0) ((rowAt (plOf (parseS s)) (L.getD k noSet) L c).1.map setW), .map (.arr 2 .u64) (mapK ((rowAt (plOf (parseS s)) (L.getD k noSet) L c).1.map keyS)), .box (.agg [.own 5, .own 6]), oL 4 eB 1 false A, oL 22 (eL eI 1 0) 1 [] Nx, .dead]) (fun A_ W_ hS => sl_freeze (vc := [∀ j, j < (rowL (plOf (parseS s)) (L.getD k noSet) L c).length → D.p (eI ((rowL (plOf (parseS s)) (L.getD k noSet) L c).getD j 0)) = .p ((fun j => eI ((rowL (plOf (parseS s)) (L.getD k noSet) L c).getD j 0)) j), ∀ i, i < ((rowAt (plOf (parseS s)) (L.getD k noSet) L c).1.map setW).length → D.p ((eA (eK .u64) 1 2) (((rowAt (plOf (parseS s)) (L.getD k noSet) L c).1.map setW).getD i (fun _ => 0))) = .p ((eA (eK .u64) 1 2) (((rowAt (plOf (parseS s)) (L.getD k noSet) L c).1.map setW).getD i (fun _ => 0))), ∀ i, i < A.length → D.p (eB (A.getD i false)) = .p (eB (A.getD i false)), ∀ i, i < Nx.length → D.p ((eL eI 1 0) (Nx.getD i [])) = .p ((eL eI 1 0) (Nx.getD i []))]) 7 (fun j => eI ((rowL (plOf (parseS s)) (L.getD k noSet) L c).getD j 0)) (by kernel_rfl) (al (fun _ _ => rfl) (al (fun _ _ => rfl) (al (fun _ _ => rfl) (al (fun _ _ => rfl) trivial)))) hS) ?_
                      refine tr_dx (vc := [∀ j, j < 1 → ([.v (.bool (acc (plOf (parseS s)) (L.getD k noSet) q))] : List PV).getD j default = (fun i => eB (([(acc (plOf (parseS s)) (L.getD k noSet) q)]).getD i false)) j, (A.length + (([(acc (plOf (parseS s)) (L.getD k noSet) q)]).length)) * 1 ≤ 140737488355328, ∀ j, j < 1 → ([(eL eI 1 0) (rowL (plOf (parseS s)) (L.getD k noSet) L c)] : List PV).getD j default = (fun i => (eL eI 1 0) (([(rowL (plOf (parseS s)) (L.getD k noSet) L c)]).getD i [])) j, (Nx.length + (([(rowL (plOf (parseS s)) (L.getD k noSet) L c)]).length)) * 24 ≤ 140737488355328]) (E' := [(2, none, .ref 0 []), (4, none, .p ((eL ePlace 3 dPlace) (plOf (parseS s)))), (10, none, .own 2), (11, none, .own 3), (12, none, .ref 4 []), (13, none, vint .i64 ((k : Nat) : Int))]) (H' := [.box (.p (.agg [.v (.slice none 0 0), .v (.slice none 0 0)])), .box (.p ((eA (eK .u64) 1 2) (setW (startAt (stOf (parseS s)) n0)))), oL 67 (eA (eK .u64) 1 2) 2 (fun _ => 0) ((rowAt (plOf (parseS s)) (L.getD k noSet) L c).1.map setW), .map (.arr 2 .u64) (mapK ((rowAt (plOf (parseS s)) (L.getD k noSet) L c).1.map keyS)), .box (.agg [.own 8, .own 9]), .dead, .dead, .dead, .arr 4 1 (A.length + ([(acc (plOf (parseS s)) (L.getD k noSet) q)]).length) (appF (fun i => .p (eB (A.getD i false))) A.length (fun j => .p (eB (([(acc (plOf (parseS s)) (L.getD k noSet) q)]).getD j false)))), .arr 22 1 (Nx.length + ([(rowL (plOf (parseS s)) (L.getD k noSet) L c)]).length) (appF (fun i => .p ((eL eI 1 0) (Nx.getD i []))) Nx.length (fun j => .p ((eL eI 1 0) (([(rowL (plOf (parseS s)) (L.getD k noSet) L c)]).getD j []))))]) 10 [(1, 10, [], [4]), (4, 8, [5, 8], [5, 8]), (6, 10, [], [4]), (9, 9, [6, 9], [6, 9]), (11, 10, [4], [4, 8]), (13, 10, [4], [4, 9])] [] [(3, .p ((eL eB 1 false) ([(acc (plOf (parseS s)) (L.getD k noSet) q)]))), (8, .p ((eL (eL eI 1 0) 1 []) ([(rowL (plOf (parseS s)) (L.getD k noSet) L c)])))] [2, 4, 10, 11, 12, 13] (by kernel_rfl) (by kernel_rfl) (by kernel_rfl) (by kernel_rfl) ?_ ?_
                      · refine al ?_ (al ?_ (al ?_ (al ?_ (trivial))))
                        · exact lit_pv (e := eB) (d := false) (l := [(acc (plOf (parseS s)) (L.getD k noSet) q)])
                        · (simp_all; omega)
                        · exact lit_pv (e := (eL eI 1 0)) (d := []) (l := [(rowL (plOf (parseS s)) (L.getD k noSet) L c)])
                        · (simp_all; omega)
                      refine nm_pre (E' := [(2, none, .ref 0 []), (4, none, .p ((eL ePlace 3 dPlace) (plOf (parseS s)))), (10, none, .own 2), (11, none, .own 3), (12, none, .ref 4 []), (13, none, vint .i64 ((k : Nat) : Int))]) (H' := [.box (.p (.agg [.v (.slice none 0 0), .v (.slice none 0 0)])), .box (.p ((eA (eK .u64) 1 2) (setW (startAt (stOf (parseS s)) n0)))), oL 67 (eA (eK .u64) 1 2) 2 (fun _ => 0) ((rowAt (plOf (parseS s)) (L.getD k noSet) L c).1.map setW), .map (.arr 2 .u64) (mapK ((rowAt (plOf (parseS s)) (L.getD k noSet) L c).1.map keyS)), .box (.agg [.own 8, .own 9]), .dead, .dead, .dead, oL 4 eB 1 false (A ++ ([(acc (plOf (parseS s)) (L.getD k noSet) q)])), .arr 22 1 (Nx.length + ([(rowL (plOf (parseS s)) (L.getD k noSet) L c)]).length) (appF (fun i => .p ((eL eI 1 0) (Nx.getD i []))) Nx.length (fun j => .p ((eL eI 1 0) (([(rowL (plOf (parseS s)) (L.getD k noSet) L c)]).getD j []))))]) (fun A_ W_ hS => sl_arr (n := (A.length + ([(acc (plOf (parseS s)) (L.getD k noSet) q)]).length)) (n' := (A ++ ([(acc (plOf (parseS s)) (L.getD k noSet) q)])).length) (f := appF (fun i => .p (eB (A.getD i false))) A.length (fun j => .p (eB (([(acc (plOf (parseS s)) (L.getD k noSet) q)]).getD j false)))) 8 (fun i => .p (eB ((A ++ ([(acc (plOf (parseS s)) (L.getD k noSet) q)])).getD i false))) (by kernel_rfl) (by simp) (by first | exact appN | exact nilN | exact app0 | exact nilV _) hS) ?_
                      refine nm_pre (E' := [(2, none, .ref 0 []), (4, none, .p ((eL ePlace 3 dPlace) (plOf (parseS s)))), (10, none, .own 2), (11, none, .own 3), (12, none, .ref 4 []), (13, none, vint .i64 ((k : Nat) : Int))]) (H' := [.box (.p (.agg [.v (.slice none 0 0), .v (.slice none 0 0)])), .box (.p ((eA (eK .u64) 1 2) (setW (startAt (stOf (parseS s)) n0)))), oL 67 (eA (eK .u64) 1 2) 2 (fun _ => 0) ((rowAt (plOf (parseS s)) (L.getD k noSet) L c).1.map setW), .map (.arr 2 .u64) (mapK ((rowAt (plOf (parseS s)) (L.getD k noSet) L c).1.map keyS)), .box (.agg [.own 8, .own 9]), .dead, .dead, .dead, oL 4 eB 1 false (A ++ ([(acc (plOf (parseS s)) (L.getD k noSet) q)])), oL 22 (eL eI 1 0) 1 [] (Nx ++ ([(rowL (plOf (parseS s)) (L.getD k noSet) L c)]))]) (fun A_ W_ hS => sl_arr (n := (Nx.length + ([(rowL (plOf (parseS s)) (L.getD k noSet) L c)]).length)) (n' := (Nx ++ ([(rowL (plOf (parseS s)) (L.getD k noSet) L c)])).length) (f := appF (fun i => .p ((eL eI 1 0) (Nx.getD i []))) Nx.length (fun j => .p ((eL eI 1 0) (([(rowL (plOf (parseS s)) (L.getD k noSet) L c)]).getD j [])))) 9 (fun i => .p ((eL eI 1 0) ((Nx ++ ([(rowL (plOf (parseS s)) (L.getD k noSet) L c)])).getD i []))) (by kernel_rfl) (by simp) (by first | exact appN | exact nilN | exact app0 | exact nilV _) hS) ?_
                      refine tr_then (tr_seq ?_)
                      refine tr_r (vc := []) (E' := [(2, none, .ref 0 []), (4, none, .p ((eL ePlace 3 dPlace) (plOf (parseS s)))), (10, none, .own 2), (11, none, .own 3), (12, none, .ref 4 []), (13, none, vint .i64 ((k : Nat) : Int)), (132, none, vbool (decide (16 < ((((rowAt (plOf (parseS s)) (L.getD k noSet) L c).1.map setW).length : Nat) : Int))))]) (H' := [.box (.p (.agg [.v (.slice none 0 0), .v (.slice none 0 0)])), .box (.p ((eA (eK .u64) 1 2) (setW (startAt (stOf (parseS s)) n0)))), oL 67 (eA (eK .u64) 1 2) 2 (fun _ => 0) ((rowAt (plOf (parseS s)) (L.getD k noSet) L c).1.map setW), .map (.arr 2 .u64) (mapK ((rowAt (plOf (parseS s)) (L.getD k noSet) L c).1.map keyS)), .box (.agg [.own 8, .own 9]), .dead, .dead, .dead, oL 4 eB 1 false (A ++ ([(acc (plOf (parseS s)) (L.getD k noSet) q)])), oL 22 (eL eI 1 0) 1 [] (Nx ++ ([(rowL (plOf (parseS s)) (L.getD k noSet) L c)]))]) [] [] [2, 4, 10, 11, 12, 13, 132] (by kernel_rfl) ?_ ?_
                      · exact trivial
                      refine tr_then ?_
                      refine tr_condP (decide (16 < ((((rowAt (plOf (parseS s)) (L.getD k noSet) L c).1.map setW).length : Nat) : Int))) (16 < ((((rowAt (plOf (parseS s)) (L.getD k noSet) L c).1.map setW).length : Nat) : Int)) (by simp) (by kernel_rfl) (fun hc9 => ?_) (fun hc9 => ?_)
                      · skip
                        refine tr_seq ?_
                        refine tr_r (vc := []) (E' := [(2, none, .ref 0 []), (3, none, vint .i64 2)]) (H' := [.box (.p (.agg [.v (.slice none 0 0), .v (.slice none 0 0)])), .box (.p ((eA (eK .u64) 1 2) (setW (startAt (stOf (parseS s)) n0)))), oL 67 (eA (eK .u64) 1 2) 2 (fun _ => 0) ((rowAt (plOf (parseS s)) (L.getD k noSet) L c).1.map setW), .map (.arr 2 .u64) (mapK ((rowAt (plOf (parseS s)) (L.getD k noSet) L c).1.map keyS)), .box (.agg [.own 8, .own 9]), .dead, .dead, .dead, oL 4 eB 1 false (A ++ ([(acc (plOf (parseS s)) (L.getD k noSet) q)])), oL 22 (eL eI 1 0) 1 [] (Nx ++ ([(rowL (plOf (parseS s)) (L.getD k noSet) L c)]))]) [] [] [2, 3] (by kernel_rfl) ?_ ?_
                        · exact trivial
                        refine tr_then ?_
                        refine tr_pre (E' := [(2, none, .ref 0 []), (3, none, vint .i64 2)]) (H' := [.box (.p (.agg [.v (.slice none 0 0), .v (.slice none 0 0)]))]) (fun A_ W_ hS => sl_weak (vc := []) [0] [2, 3] (by kernel_rfl) trivial hS) ?_
                        refine tr_pre (E' := [(2, none, .ref 0 []), (3, none, vint .i64 2)]) (H' := [.box (.p (eLang ((langS s).1)))]) (fun A_ W_ hS => sl_obj_imp (d := .p (.agg [.v (.slice none 0 0), .v (.slice none 0 0)])) 0 (.p (eLang ((langS s).1))) (by kernel_rfl) ?_ hS) ?_
                        · refine err_lang ?_
                          first | (rw [langS_1 (by omega)]; done) | (rw [langS_2 (by omega) hc2]; done) | (obtain rfl : c = 37 := (by omega); rw [langS_3 (by omega) hc2 (by rw [← hi1_0]; exact bfs_many (by omega) (by omega) (by omega))]; done) | (rw [langS_4 (by omega) hc2 (by rw [← hi1_0]; exact bfs_end (by omega) (by omega))]; done)
                        refine tr_pre (E' := (3, none, vint .i64 ((langS s).2)) :: [(2, none, .ref 0 []), (3, none, vint .i64 2)]) (H' := [.box (.p (eLang ((langS s).1)))]) (fun A_ W_ hS => sl_set_imp (d := vint .i64 2) 3 (vint .i64 ((langS s).2)) (by kernel_rfl) ?_ hS) ?_
                        · refine imp_eq (congrArg (fun x => D.p (eI x)) (a₁ := 2) (a₂ := ((langS s).2)) ?_)
                          first | (rw [langS_1 (by omega)]; done) | (rw [langS_2 (by omega) hc2]; done) | (obtain rfl : c = 37 := (by omega); rw [langS_3 (by omega) hc2 (by rw [← hi1_0]; exact bfs_many (by omega) (by omega) (by omega))]; done) | (rw [langS_4 (by omega) hc2 (by rw [← hi1_0]; exact bfs_end (by omega) (by omega))]; done)
                        refine tr_pre (E' := [(2, none, .ref 0 []), (3, none, vint .i64 ((langS s).2))]) (H' := [.box (.p (eLang ((langS s).1)))]) (fun A_ W_ hS => sl_proj (ts := [2, 3]) (by kernel_rfl) hS) ?_
                        exact tr_return' (vc := []) (ds := [.p (eLang ((langS s).1)), vint .i64 ((langS s).2)]) (by kernel_rfl) trivial (by kernel_rfl) (fun _ _ h => h)
                      · skip
                        refine tr_skip ?_
                        refine in_n ?_
                        refine tr_then ?_
                        refine tr_r (vc := [(IntKind.wrap .i64 (((k : Nat) : Int) + 1)) = (((k + 1) : Nat) : Int)]) (E' := [(2, none, .ref 0 []), (4, none, .p ((eL ePlace 3 dPlace) (plOf (parseS s)))), (10, none, .own 2), (11, none, .own 3), (12, none, .ref 4 []), (13, none, vint .i64 (((k + 1) : Nat) : Int))]) (H' := [.box (.p (.agg [.v (.slice none 0 0), .v (.slice none 0 0)])), .box (.p ((eA (eK .u64) 1 2) (setW (startAt (stOf (parseS s)) n0)))), oL 67 (eA (eK .u64) 1 2) 2 (fun _ => 0) ((rowAt (plOf (parseS s)) (L.getD k noSet) L c).1.map setW), .map (.arr 2 .u64) (mapK ((rowAt (plOf (parseS s)) (L.getD k noSet) L c).1.map keyS)), .box (.agg [.own 8, .own 9]), .dead, .dead, .dead, oL 4 eB 1 false (A ++ ([(acc (plOf (parseS s)) (L.getD k noSet) q)])), oL 22 (eL eI 1 0) 1 [] (Nx ++ ([(rowL (plOf (parseS s)) (L.getD k noSet) L c)]))]) [(1, vint .i64 (((k + 1) : Nat) : Int))] [] [2, 4, 10, 11, 12, 13] (by kernel_rfl) ?_ ?_
                        · refine al ?_ (trivial)
                          · exact wr64 (by omega) (by omega) (by omega)
                        refine lp_end ((k + 1), (rowAt (plOf (parseS s)) (L.getD k noSet) L 37).1, (A ++ [acceptS (plOf (parseS s)) (L.getD k noSet)]), (Nx ++ [(rowAt (plOf (parseS s)) (L.getD k noSet) L 37).2])) ?_ ?_ ?_
                        · show (bfsM (plOf (parseS s)) (17 - (k + 1)) ((rowAt (plOf (parseS s)) (L.getD k noSet) L 37).1) (k + 1) (A ++ [acceptS (plOf (parseS s)) (L.getD k noSet)]) (Nx ++ [(rowAt (plOf (parseS s)) (L.getD k noSet) L 37).2]) = bfsM (plOf (parseS s)) 17 [startS (parseS s)] 0 [] []) ∧ ((k + 1) ≤ ((rowAt (plOf (parseS s)) (L.getD k noSet) L 37).1).length) ∧ (((rowAt (plOf (parseS s)) (L.getD k noSet) L 37).1).length ≤ 16) ∧ ((A ++ [acceptS (plOf (parseS s)) (L.getD k noSet)]).length = (k + 1)) ∧ ((Nx ++ [(rowAt (plOf (parseS s)) (L.getD k noSet) L 37).2]).length = (k + 1))
                          refine ⟨?_, ?_, ?_, ?_, ?_⟩
                          · obtain rfl : c = 37 := (by omega); rw [← hi1_0, bfs_step (n := 17 - k) (by omega) (by omega) (by omega), Nat.sub_sub]
                          · grind
                          · grind
                          · (simp_all; done)
                          · (simp_all; done)
                        · show 17 - (k + 1) < 17 - k
                          omega
                        · intro A_ W_ hS
                          replace hS := sl_obj (o := .map (.arr 2 .u64) (mapK ((rowAt (plOf (parseS s)) (L.getD k noSet) L c).1.map keyS))) 3 (.map (.arr 2 .u64) (mapK (((rowAt (plOf (parseS s)) (L.getD k noSet) L 37).1).map keyS))) (by kernel_rfl) (congrArg (O.map (.arr 2 .u64)) (a₁ := (mapK ((rowAt (plOf (parseS s)) (L.getD k noSet) L c).1.map keyS))) (a₂ := (mapK (((rowAt (plOf (parseS s)) (L.getD k noSet) L 37).1).map keyS))) (by grind)) hS
                          replace hS := sl_arr (e := 67) (sz := 2) (n := ((rowAt (plOf (parseS s)) (L.getD k noSet) L c).1.map setW).length) (n' := (((rowAt (plOf (parseS s)) (L.getD k noSet) L 37).1).map setW).length) (f := (fun i => .p ((eA (eK .u64) 1 2) (((rowAt (plOf (parseS s)) (L.getD k noSet) L c).1.map setW).getD i (fun _ => 0))))) 2 (fun i => .p ((eA (eK .u64) 1 2) ((((rowAt (plOf (parseS s)) (L.getD k noSet) L 37).1).map setW).getD i (fun _ => 0)))) (by kernel_rfl) (by first | omega | (intro hg; simp at hg; omega) | (simp; done) | (simp_all; done) | (simp_all; omega) | grind) (by first | omega | (intro hg; simp at hg; omega) | (simp; done) | (simp_all; done) | (simp_all; omega) | grind) hS
                          replace hS := sl_arr (e := 4) (sz := 1) (n := (A ++ ([(acc (plOf (parseS s)) (L.getD k noSet) q)])).length) (n' := (A ++ [acceptS (plOf (parseS s)) (L.getD k noSet)]).length) (f := (fun i => .p (eB ((A ++ ([(acc (plOf (parseS s)) (L.getD k noSet) q)])).getD i false)))) 8 (fun i => .p (eB ((A ++ [acceptS (plOf (parseS s)) (L.getD k noSet)]).getD i false))) (by kernel_rfl) (by (simp; done)) (by intro j hj; unfold acceptS; rw [show (plOf (parseS s)).length = q by omega]) hS
                          replace hS := sl_arr (e := 22) (sz := 1) (n := (Nx ++ ([(rowL (plOf (parseS s)) (L.getD k noSet) L c)])).length) (n' := (Nx ++ [(rowAt (plOf (parseS s)) (L.getD k noSet) L 37).2]).length) (f := (fun i => .p ((eL eI 1 0) ((Nx ++ ([(rowL (plOf (parseS s)) (L.getD k noSet) L c)])).getD i [])))) 9 (fun i => .p ((eL eI 1 0) ((Nx ++ [(rowAt (plOf (parseS s)) (L.getD k noSet) L 37).2]).getD i []))) (by kernel_rfl) (by (simp; done)) (by intro j hj; rw [show c = 37 by omega, rowL_37]) hS
                          exact sl_weak (vc := [∀ i, i < (((rowAt (plOf (parseS s)) (L.getD k noSet) L 37).1).map setW).length → D.p ((eA (eK .u64) 1 2) ((((rowAt (plOf (parseS s)) (L.getD k noSet) L 37).1).map setW).getD i (fun _ => 0))) = .p ((eA (eK .u64) 1 2) ((((rowAt (plOf (parseS s)) (L.getD k noSet) L 37).1).map setW).getD i (fun _ => 0))), ∀ i, i < (A ++ [acceptS (plOf (parseS s)) (L.getD k noSet)]).length → D.p (eB ((A ++ [acceptS (plOf (parseS s)) (L.getD k noSet)]).getD i false)) = .p (eB ((A ++ [acceptS (plOf (parseS s)) (L.getD k noSet)]).getD i false)), ∀ i, i < (Nx ++ [(rowAt (plOf (parseS s)) (L.getD k noSet) L 37).2]).length → D.p ((eL eI 1 0) ((Nx ++ [(rowAt (plOf (parseS s)) (L.getD k noSet) L 37).2]).getD i [])) = .p ((eL eI 1 0) ((Nx ++ [(rowAt (plOf (parseS s)) (L.getD k noSet) L 37).2]).getD i []))]) [0, 1, 2, 3, 4, 8, 9] [2, 4, 10, 11, 12, 13] (by kernel_rfl) (al (fun _ _ => rfl) (al (fun _ _ => rfl) (al (fun _ _ => rfl) trivial))) hS
            · skip
              refine tr_exit ?_
              refine th_e ?_
              refine th_e ?_
              refine in_hit ?_
              refine tr_then (tr_seq ?_)
              refine tr_r (vc := []) (E' := [(2, none, .ref 0 []), (3, none, vint .i64 0)]) (H' := [.box (.agg [.own 5, .own 6]), .box (.p ((eA (eK .u64) 1 2) (setW (startAt (stOf (parseS s)) n0)))), oL 67 (eA (eK .u64) 1 2) 2 (fun _ => 0) (L.map setW), .map (.arr 2 .u64) (mapK (L.map keyS)), .box (.agg [.own 5, .own 6]), oL 4 eB 1 false A, oL 22 (eL eI 1 0) 1 [] Nx]) [] [] [2, 3] (by kernel_rfl) ?_ ?_
              · exact trivial
              refine tr_then ?_
              refine tr_pre (E' := [(2, none, .ref 0 []), (3, none, vint .i64 0)]) (H' := [.box (.agg [.own 1, .own 2]), oL 4 eB 1 false A, oL 22 (eL eI 1 0) 1 [] Nx]) (fun A_ W_ hS => sl_weak (vc := [∀ i, i < A.length → D.p (eB (A.getD i false)) = .p (eB (A.getD i false)), ∀ i, i < Nx.length → D.p ((eL eI 1 0) (Nx.getD i [])) = .p ((eL eI 1 0) (Nx.getD i []))]) [0, 5, 6] [2, 3] (by kernel_rfl) (al (fun _ _ => rfl) (al (fun _ _ => rfl) trivial)) hS) ?_
              refine tr_pre (E' := [(2, none, .ref 0 []), (3, none, vint .i64 0)]) (H' := [.box (.agg [.p ((eL eB 1 false) A), .own 2]), .dead, oL 22 (eL eI 1 0) 1 [] Nx]) (fun A_ W_ hS => sl_freeze (vc := [∀ j, j < A.length → D.p (eB (A.getD j false)) = .p ((fun j => eB (A.getD j false)) j), ∀ i, i < Nx.length → D.p ((eL eI 1 0) (Nx.getD i [])) = .p ((eL eI 1 0) (Nx.getD i []))]) 1 (fun j => eB (A.getD j false)) (by kernel_rfl) (al (fun _ _ => rfl) (al (fun _ _ => rfl) trivial)) hS) ?_
              refine tr_pre (E' := [(2, none, .ref 0 []), (3, none, vint .i64 0)]) (H' := [.box (.p (.agg [(eL eB 1 false) A, (eL (eL eI 1 0) 1 []) Nx])), .dead, .dead]) (fun A_ W_ hS => sl_freeze (vc := [∀ j, j < Nx.length → D.p ((eL eI 1 0) (Nx.getD j [])) = .p ((fun j => (eL eI 1 0) (Nx.getD j [])) j)]) 2 (fun j => (eL eI 1 0) (Nx.getD j [])) (by kernel_rfl) (al (fun _ _ => rfl) trivial) hS) ?_
              refine tr_pre (E' := [(2, none, .ref 0 []), (3, none, vint .i64 0)]) (H' := [.box (.p (eLang ((langS s).1))), .dead, .dead]) (fun A_ W_ hS => sl_obj_imp (d := .p (.agg [(eL eB 1 false) A, (eL (eL eI 1 0) 1 []) Nx])) 0 (.p (eLang ((langS s).1))) (by kernel_rfl) ?_ hS) ?_
              · refine ok_lang ?_
                first | (rw [langS_1 (by omega)]; done) | (rw [langS_2 (by omega) hc2]; done) | (obtain rfl : c = 37 := (by omega); rw [langS_3 (by omega) hc2 (by rw [← hi1_0]; exact bfs_many (by omega) (by omega) (by omega))]; done) | (rw [langS_4 (by omega) hc2 (by rw [← hi1_0]; exact bfs_end (by omega) (by omega))]; done)
              refine tr_pre (E' := (3, none, vint .i64 ((langS s).2)) :: [(2, none, .ref 0 []), (3, none, vint .i64 0)]) (H' := [.box (.p (eLang ((langS s).1))), .dead, .dead]) (fun A_ W_ hS => sl_set_imp (d := vint .i64 0) 3 (vint .i64 ((langS s).2)) (by kernel_rfl) ?_ hS) ?_
              · refine imp_eq (congrArg (fun x => D.p (eI x)) (a₁ := 0) (a₂ := ((langS s).2)) ?_)
                first | (rw [langS_1 (by omega)]; done) | (rw [langS_2 (by omega) hc2]; done) | (obtain rfl : c = 37 := (by omega); rw [langS_3 (by omega) hc2 (by rw [← hi1_0]; exact bfs_many (by omega) (by omega) (by omega))]; done) | (rw [langS_4 (by omega) hc2 (by rw [← hi1_0]; exact bfs_end (by omega) (by omega))]; done)
              refine tr_pre (E' := [(2, none, .ref 0 []), (3, none, vint .i64 ((langS s).2))]) (H' := [.box (.p (eLang ((langS s).1))), .dead, .dead]) (fun A_ W_ hS => sl_proj (ts := [2, 3]) (by kernel_rfl) hS) ?_
              exact tr_return' (vc := []) (ds := [.p (eLang ((langS s).1)), vint .i64 ((langS s).2)]) (by kernel_rfl) trivial (by kernel_rfl) (fun _ _ h => h)
end Go.Proofs.Ytjnjmnfacaakfaa
