/-
  GlyphReaches: whatever the input, the call returns true, and each argument reads afterwards as it read before; tied to the program's text. (Part 5 of 6 of its proof.)
-/
import Derived.Test.YtekhlnihpfkkkaaGreatDoorCG5C
set_option linter.unusedSimpArgs false
set_option linter.unusedVariables false
namespace Go.Proofs.YtekhlnihpfkkkaaGreatDoor
open Go.Eng
theorem axC_le (v : Int) : axC v ≤ 2 := by
 simp only [axC]; split
 ·omega
 ·split <;> omega
theorem mdA_le (L : List Int) : mdA L ≤ 2 := axC_le _
theorem gls_len (l : List (List Int)) : (madeS l).gls.length = 9 := len_rm _ _
theorem axes_len (l : List (List Int)) : (madeS l).axes.length = mdA (l.getD 0 []) := len_rm _ _
theorem gls_at (l : List (List Int)) {k : Nat} (h : k < 9) : (madeS l).gls.getD k gl0 = glM l (mdA (l.getD 0 [])) k := getD_rm h
theorem tgS_ok (i : Nat) (h : i < 2) : Pure Tryz.prog 175 [.s (tgS i)] (vbool true) := by
 have : i = 0 ∨ i = 1 := by omega
 rcases this with rfl | rfl <;> exact tag_ok _ (by decide) (by decide) (by decide +kernel)
theorem chS_ok (k : Nat) (h : k < 9) : chS k = 45 ∨ Pure Tryz.prog 162 [.s (Utf8.encode (IntKind.wrap .i32 (chS k))).data.toList, eB true] (vbool true) := by
 have : k = 0 ∨ k = 1 ∨ k = 2 ∨ k = 3 ∨ k = 4 ∨ k = 5 ∨ k = 6 ∨ k = 7 ∨ k = 8 := by omega
 rcases this with rfl | rfl | rfl | rfl | rfl | rfl | rfl | rfl | rfl
 ·exact .inl rfl
 all_goals exact .inr (letters_ok _ true (by decide +kernel) (by decide +kernel) (by decide +kernel))
theorem made_ax (l : List (List Int)) : OkAx (madeS l).axes := by
 have hl := axes_len l
 have h2 := mdA_le (l.getD 0 [])
 have hat : ∀ {k : Nat}, k < (madeS l).axes.length → (madeS l).axes.getD k ax0 = axM (l.getD 0 []) (n3 (l.getD 0 []) 0) k := fun {k} h => getD_rm (by omega)
 refine ⟨by omega, fun k hk => ?_, fun k j hk hj => ?_, fun k hk => ?_⟩
 ·rw [hat hk]
  exact tgS_ok k (by omega)
 ·rw [hat hk, hat (by omega)]
  show tgS k ≠ tgS j
  have : k = 1 ∧ j = 0 := by omega
  obtain ⟨rfl, rfl⟩ := this
  decide
 ·rw [hat hk]
  simp only [axM]
  have a := v1b (l.getD 0 []) (mk (l.getD 0 []) (n3 (l.getD 0 []) 0) k) 2 (by decide)
  have b := v1b (l.getD 0 []) (n1 (l.getD 0 []) (mk (l.getD 0 []) (n3 (l.getD 0 []) 0) k)) 2 (by decide)
  omega
theorem made_head (l : List (List Int)) : Pure Tryz.prog 157 [eFn (madeS l)] (vint .i64 0) := by
 refine head_ok (madeS l) ?_ (made_ax l) ?_ (by rw [gls_len]; decide)
 ·show Pure Tryz.prog 162 [.s (nmS (v1 (l.getD 0 []) 0 3)), eB false] (vbool true)
  have := v1b (l.getD 0 []) 0 3 (by decide)
  generalize v1 (l.getD 0 []) 0 3 = v at this
  have : v = 0 ∨ v = 1 ∨ v = 2 := by omega
  rcases this with rfl | rfl | rfl <;> exact letters_ok _ _ (by decide) (by decide) (by decide +kernel)
 ·show 0 ≤ v1 (l.getD 0 []) (n1 (l.getD 0 []) 0) 4 ∧ v1 (l.getD 0 []) (n1 (l.getD 0 []) 0) 4 ≤ 9999
  have := v1b (l.getD 0 []) (n1 (l.getD 0 []) 0) 4 (by decide)
  omega
theorem made_chs (l : List (List Int)) : Pure Tryz.prog 159 [eFn (madeS l)] (vint .i64 0) := by
 have hl : (madeS l).chars.length = 9 := len_rm _ _
 have hat : ∀ {k : Nat}, k < 9 → (madeS l).chars.getD k (0, 0) = (chS k, chG (mdL (l.getD 0 [])) k) := fun {k} h => getD_rm h
 have hb : 1 ≤ mdL (l.getD 0 []) ∧ mdL (l.getD 0 []) ≤ 8 := by
  have := v1b (l.getD 0 []) (mk (l.getD 0 []) (n3 (l.getD 0 []) 0) (mdA (l.getD 0 []))) 8 (by decide)
  simp only [mdL]; omega
 refine chs_ok _ ⟨by omega, fun k hk => ?_, fun k hk => ?_⟩
 ·rw [hl] at hk
  rw [hat hk, gls_len]
  have hp : lastS (madeS l).chars k = if k = 0 then -1 else chS (k - 1) := by
   simp only [lastS]
   split
   ·rfl
   ·rw [hat (by omega)]
  rw [hp]
  generalize mdL (l.getD 0 []) = m at hb
  have : k = 0 ∨ k = 1 ∨ k = 2 ∨ k = 3 ∨ k = 4 ∨ k = 5 ∨ k = 6 ∨ k = 7 ∨ k = 8 := by omega
  rcases this with rfl | rfl | rfl | rfl | rfl | rfl | rfl | rfl | rfl <;> simp [chS, chG]
  omega
 ·rw [hl] at hk
  rw [hat hk]
  exact chS_ok k hk
theorem allIn_rm {f : Nat → Int} {n m : Nat} (h : ∀ i, i < n → 0 ≤ f i ∧ f i < m) : allIn ((List.range n).map f) m := by
 intro k hk
 rw [len_rm] at hk
 rw [getD_rm hk]
 exact h k hk
theorem ok_opt (L : List Int) (b : Int) : (opt1 L b).length ≤ 2 ∧ allIn (opt1 L b) 9 := by
 simp only [opt1]
 have := v1b L (n1 L b) 8 (by decide)
 split
 ·refine ⟨by simp, fun k hk => ?_⟩
  have : k = 0 := by simp at hk; omega
  subst this
  simp only [List.getD_cons_zero]
  omega
 ·exact ⟨by simp, fun k hk => by simp at hk⟩
theorem ok_sb (L : List Int) (s : Int) : OkSb (sbM L s) 9 := by
 have a := v1b L (n1 L s) 4 (by decide)
 have b := v1b L (n2 L s) 4 (by decide)
 have c := v1b L s 8 (by decide)
 have hl : (sbM L s).frm.length = sbN L s := len_rm _ _
 refine ⟨?_, ?_, (ok_opt L _).1, (ok_opt L _).1, allIn_rm fun i hi => ?_, (ok_opt L _).2, (ok_opt L _).2, ?_⟩
 ·rw [hl, sbN]; omega
 ·rw [hl, sbN]; omega
 ·have := v1b L (tk L (n3 L s) i) 8 (by decide)
  simp only [sbF1]; omega
 ·show 0 ≤ sbT L s ∧ sbT L s < (9 : Nat)
  simp only [sbT]; omega
theorem made_lks (l : List (List Int)) : Pure Tryz.prog 160 [eFn (madeS l)] (vint .i64 0) := by
 refine lks_ok _ ?_
 rw [gls_len]
 show OkLk (lksM (l.getD 9 []) 0) 9
 generalize l.getD 9 [] = L
 have hl : (lksM L 0).length = lksN L 0 := len_rm _ _
 have hn := v1b L 0 3 (by decide)
 have hn2 : lksN L 0 ≤ 2 := by simp only [lksN]; omega
 refine ⟨by omega, fun k hk => ?_⟩
 have e : (lksM L 0).getD k [] = lkM L (lkI L (n1 L 0) k) := getD_rm (by omega)
 rw [e]
 have hl2 : (lkM L (lkI L (n1 L 0) k)).length = lkN L (lkI L (n1 L 0) k) := len_rm _ _
 have hm := v1b L (lkI L (n1 L 0) k) 4 (by decide)
 refine ⟨by rw [hl2, lkN]; omega, fun j hj => ?_⟩
 rw [show (lkM L (lkI L (n1 L 0) k)).getD j sb0 = sbM L (sbI L (n1 L (lkI L (n1 L 0) k)) j) from getD_rm (by omega)]
 exact ok_sb _ _
theorem made_kern (l : List (List Int)) : Pure Tryz.prog 161 [eFn (madeS l)] (vint .i64 0) := by
 refine kern_ok _ ?_
 rw [gls_len]
 show OkKn (knM (l.getD 9 []) (lksK (l.getD 9 []) 0)) 9
 generalize l.getD 9 [] = L
 generalize lksK L 0 = s
 have hl : (knM L s).length = knN L s := len_rm _ _
 have hn := v1b L s 4 (by decide)
 have hn2 : knN L s ≤ 3 := by simp only [knN]; omega
 have hat : ∀ {k : Nat}, k < knN L s → (knM L s).getD k tn0 = knM1 L s k := fun {k} h => getD_rm h
 have hx : ∀ k : Nat, k < 3 → 0 ≤ (knI L s (k + 1)).1 ∧ (knI L s (k + 1)).1 ≤ 59 := fun k hk => by
  have a := knI1 L s (k + 1)
  have b := knI1 L s k
  have c := v1b L (knI L s k).2 20 (by decide)
  have e : (knI L s (k + 1)).1 = (knI L s k).1 + 1 + v1 L (knI L s k).2 20 := rfl
  omega
 refine ⟨by omega, fun k hk => ?_, fun k hk => ?_⟩
 ·rw [hl] at hk
  rw [hat hk]
  have a := hx k (by omega)
  have b := v1b L (n1 L (knI L s k).2) 9 (by decide)
  simp only [knM1]
  omega
 ·rw [hl] at hk
  rw [hat (by omega), hat hk]
  have c := v1b L (knI L s (k + 1)).2 20 (by decide)
  have e : (knI L s (k + 1 + 1)).1 = (knI L s (k + 1)).1 + 1 + v1 L (knI L s (k + 1)).2 20 := rfl
  simp only [knM1]
  omega
end Go.Proofs.YtekhlnihpfkkkaaGreatDoor
namespace Go.Proofs.YtekhlnihpfkkkaaGreatDoor
open Go.Eng
theorem shp_outM (L : List Int) (k : Int) (i : Int) : Shp (outM L k i) := by
 simp only [outM]
 split
 ·exact .three _ _ _ _ _ _ _
 ·split
  ·exact .one _ _ _ _
  ·exact .two _ _ _ _ _ _ _ _
theorem barb {x y w h : Int} (hx : 0 ≤ x ∧ x ≤ 100) (hy : 0 ≤ y ∧ y ≤ 100) (hw : 0 ≤ w ∧ w ≤ 100) (hh : 0 ≤ h ∧ h ≤ 100) : 3 ≤ (barS x y w h).length ∧ ((barS x y w h).getD 0 pt0).2.2 = true ∧ ∀ j, j < (barS x y w h).length → (-512 ≤ ((barS x y w h).getD j pt0).1 ∧ ((barS x y w h).getD j pt0).1 ≤ 512) ∧ -512 ≤ ((barS x y w h).getD j pt0).2.1 ∧ ((barS x y w h).getD j pt0).2.1 ≤ 512 := by
 refine ⟨by simp [barS], rfl, fun j hj => ?_⟩
 have hj : j < 4 := hj
 rcases j with _ | _ | _ | _ | j
 ·show (-512 ≤ x ∧ x ≤ 512) ∧ -512 ≤ y ∧ y ≤ 512; omega
 ·show (-512 ≤ x + w ∧ x + w ≤ 512) ∧ -512 ≤ y ∧ y ≤ 512; omega
 ·show (-512 ≤ x + w ∧ x + w ≤ 512) ∧ -512 ≤ y + h ∧ y + h ≤ 512; omega
 ·show (-512 ≤ x ∧ x ≤ 512) ∧ -512 ≤ y + h ∧ y + h ≤ 512; omega
 ·omega
theorem trib {y : Int} (hy : 0 ≤ y ∧ y ≤ 100) : 3 ≤ ([(8, y, true), (40, y, false), (24, y + 24, true)] : List Pt).length ∧ (([(8, y, true), (40, y, false), (24, y + 24, true)] : List Pt).getD 0 pt0).2.2 = true ∧ ∀ j, j < ([(8, y, true), (40, y, false), (24, y + 24, true)] : List Pt).length → (-512 ≤ (([(8, y, true), (40, y, false), (24, y + 24, true)] : List Pt).getD j pt0).1 ∧ (([(8, y, true), (40, y, false), (24, y + 24, true)] : List Pt).getD j pt0).1 ≤ 512) ∧ -512 ≤ (([(8, y, true), (40, y, false), (24, y + 24, true)] : List Pt).getD j pt0).2.1 ∧ (([(8, y, true), (40, y, false), (24, y + 24, true)] : List Pt).getD j pt0).2.1 ≤ 512 := by
 refine ⟨by simp, rfl, fun j hj => ?_⟩
 have hj : j < 3 := hj
 rcases j with _ | _ | _ | j
 ·show (-512 ≤ (8 : Int) ∧ (8 : Int) ≤ 512) ∧ -512 ≤ y ∧ y ≤ 512; omega
 ·show (-512 ≤ (40 : Int) ∧ (40 : Int) ≤ 512) ∧ -512 ≤ y ∧ y ≤ 512; omega
 ·show (-512 ≤ (24 : Int) ∧ (24 : Int) ≤ 512) ∧ -512 ≤ y + 24 ∧ y + 24 ≤ 512; omega
 ·omega
theorem okO_outM (L : List Int) (k i : Int) (hi : 0 ≤ i) : OkO (outM L k i) := by
 have a := v1b L k 3 (by decide)
 have b := v1b L (n1 L k) 4 (by decide)
 have c := v1b L (n2 L k) 4 (by decide)
 have d := v1b L (n4 L k) 3 (by decide)
 have hX : 0 ≤ stX L k i ∧ stX L k i ≤ 100 := by simp only [stX]; omega
 have hH : 0 ≤ stH L k ∧ stH L k ≤ 100 := by simp only [stH]; omega
 have hY : 0 ≤ stY L k i ∧ stY L k i ≤ 100 := by simp only [stY]; omega
 have hb := barb hX (y := 0) (w := 8) (by decide) (by decide) hH
 have hl := outM_len L k i
 refine ⟨by omega, by omega, fun j hj => ?_⟩
 revert hj
 simp only [outM]
 split
 ·intro hj
  rcases j with _ | _ | j
  ·exact hb
  ·exact trib (by omega)
  ·simp at hj; omega
 ·split
  ·intro hj
   rcases j with _ | j
   ·exact hb
   ·simp at hj
  ·intro hj
   rcases j with _ | _ | j
   ·exact hb
   ·exact barb (x := 0) (y := stY L k i) (by decide) hY (by omega) (by decide)
   ·simp at hj; omega
theorem ten4_ok (v : Int) : validS (ten4 v) = true := by
 simp only [ten4]
 split
 ·decide
 ·split
  ·decide
  ·split <;> decide
theorem ten2_ok (v : Int) : validS (ten2 v) = true := by
 simp only [ten2]; split <;> decide
theorem tenM_ok (L : List Int) (k : Int) (j : Nat) : validS (tenM L k j) = true := by
 simp only [tenM]; split
 ·exact ten4_ok _
 ·exact ten2_ok _
theorem del_fit (L : List Int) (pts axes : Nat) (k : Int) (j : Nat) (hj : j < (delsM L pts axes k).length) : ((delsM L pts axes k).getD j dl0).1.length = axes ∧ ((delsM L pts axes k).getD j dl0).1.all validS = true ∧ ((delsM L pts axes k).getD j dl0).2.length = pts ∧
  ∀ i, i < ((delsM L pts axes k).getD j dl0).2.length → (-512 ≤ (((delsM L pts axes k).getD j dl0).2.getD i (0, 0)).1 ∧ (((delsM L pts axes k).getD j dl0).2.getD i (0, 0)).1 ≤ 512) ∧ -512 ≤ (((delsM L pts axes k).getD j dl0).2.getD i (0, 0)).2 ∧ (((delsM L pts axes k).getD j dl0).2.getD i (0, 0)).2 ≤ 512 := by
 have hl : (delsM L pts axes k).length = delN L axes k := len_rm _ _
 rw [show (delsM L pts axes k).getD j dl0 = delM L pts axes (dk L pts axes (n1 L k) j) from getD_rm (by omega)]
 refine ⟨len_rm _ _, ?_, len_rm _ _, fun i hi => ?_⟩
 ·simp only [delM, List.all_map]
  exact List.all_eq_true.2 fun x _ => tenM_ok _ _ _
 ·have hi2 : i < pts := by rwa [show (delM L pts axes (dk L pts axes (n1 L k) j)).2.length = pts from len_rm _ _] at hi
  rw [show (delM L pts axes (dk L pts axes (n1 L k) j)).2.getD i (0, 0) = mv L (mk L (tk L (n1 L (dk L pts axes (n1 L k) j)) (axes - 1)) i) from getD_rm hi2]
  generalize mk L (tk L (n1 L (dk L pts axes (n1 L k) j)) (axes - 1)) i = s
  have a := v1b L s 7 (by decide)
  have b := v1b L (n1 L s) 7 (by decide)
  simp only [mv]
  omega
theorem dels_len (L : List Int) (pts axes : Nat) (k : Int) : (delsM L pts axes k).length ≤ 2 := by
 rw [show (delsM L pts axes k).length = delN L axes k from len_rm _ _]
 exact delN_le L axes k
theorem glM_at (l : List (List Int)) (ax k : Nat) (h0 : k ≠ 0) (h6 : k ≠ 6) : (glM l ax k).out = glOut (l.getD k []) k ∧ (glM l ax k).del = glDel (l.getD k []) ax k ∧ (glM l ax k).parts = [] ∧ (glM l ax k).hint = hintM (l.getD k []) (glS1 (l.getD k [])) := by
 simp only [glM, if_neg h0, gl1, if_neg h6, and_self]
theorem hintM_b (L : List Int) (k : Int) : (hintM L k).1 < 4 ∧ (hintM L k).2 < 3 := by
 have a := v1b L (n1 L k) 4 (by decide)
 have b := v1b L k 3 (by decide)
 simp only [hintM]; omega
theorem okGl_M (l : List (List Int)) (ax k : Nat) (h0 : k ≠ 0) (h6 : k ≠ 6) : OkGl (glM l ax k) ax := by
 obtain ⟨e1, e2, _, e4⟩ := glM_at l ax k h0 h6
 have hb := hintM_b (l.getD k []) (glS1 (l.getD k []))
 refine ⟨by rw [e1]; exact shp_outM _ _ _, by rw [e4]; exact hb.1, by rw [e4]; exact hb.2, by rw [e2]; have := dels_len (l.getD k []) (cnt (glOut (l.getD k []) k)) ax (n2 (l.getD k []) (glS1 (l.getD k []))); simp only [glDel]; omega, fun j hj => ?_⟩
 rw [e2] at hj ⊢
 rw [e1]
 obtain ⟨f1, f2, f3, _⟩ := del_fit _ _ _ _ j hj
 exact ⟨f1, f2, f3⟩
theorem okBl_M (l : List (List Int)) (ax : Nat) : OkBl (glM l ax 0) := ⟨rfl, rfl, rfl⟩
theorem parts_M (l : List (List Int)) (ax k : Nat) : (glM l ax k).parts = [] ∨ k = 6 := by
 by_cases h0 : k = 0
 ·subst h0; exact .inl rfl
 by_cases h6 : k = 6
 ·exact .inr h6
 exact .inl (glM_at l ax k h0 h6).2.2.1
theorem gl6_at (l : List (List Int)) (ax : Nat) : (glM l ax 6).out = [] ∧ (glM l ax 6).del = [] ∧ (glM l ax 6).parts = glPts (l.getD 6 []) ∧ (glM l ax 6).hint = (0, 0) := ⟨rfl, rfl, rfl, rfl⟩
def nmK (k : Nat) : List UInt8 := if k = 0 then [98, 108, 97, 110, 107] else gnS k
theorem name_M (l : List (List Int)) (ax k : Nat) : (glM l ax k).name = nmK k := by
 simp only [glM, nmK]
 split
 ·rfl
 ·simp only [gl1]; split <;> rfl
theorem nmK_ok (k : Nat) (h : k < 9) : Pure Tryz.prog 162 [.s (nmK k), eB true] (vbool true) := by
 have : k = 0 ∨ k = 1 ∨ k = 2 ∨ k = 3 ∨ k = 4 ∨ k = 5 ∨ k = 6 ∨ k = 7 ∨ k = 8 := by omega
 rcases this with rfl | rfl | rfl | rfl | rfl | rfl | rfl | rfl | rfl <;> exact letters_ok _ true (by decide +kernel) (by decide +kernel) (by decide +kernel)
theorem nmK_dis : ∀ k, k < 9 → ∀ j, j < k → nmK j ≠ nmK k := by decide +kernel
theorem adv_M (l : List (List Int)) (ax k : Nat) : 0 ≤ (glM l ax k).adv ∧ (glM l ax k).adv ≤ 512 := by
 have a := v1b (l.getD k []) 0 4 (by decide)
 simp only [glM]
 split
 ·decide
 ·simp only [gl1]; split <;> (simp only; omega)
theorem alts_M (l : List (List Int)) (ax k : Nat) (hk : k < 9) : OkAl (glM l ax k).alts k 9 := by
 by_cases h0 : k = 0
 ·subst h0; exact ⟨by simp [glM, glB], fun i hi => absurd hi (by simp [glM, glB]), fun i j hi => absurd hi (by simp [glM, glB])⟩
 have e : (glM l ax k).alts = (List.range (glA (l.getD k []) ax k)).map (alM k) := by simp only [glM, if_neg h0]
 have a := v1b (l.getD k []) (glSt (l.getD k []) ax k) 3 (by decide)
 have hn : glA (l.getD k []) ax k ≤ 2 := by simp only [glA]; omega
 rw [e]
 generalize glA (l.getD k []) ax k = n at hn
 refine ⟨by rw [len_rm]; omega, fun i hi => ?_, fun i j hi hj => ?_⟩
 ·rw [len_rm] at hi
  rw [getD_rm hi]
  simp only [alM]
  have : i = 0 ∨ i = 1 := by omega
  rcases this with rfl | rfl <;> omega
 ·rw [len_rm] at hi
  rw [getD_rm (show j < n by omega), getD_rm hi]
  have : i = 1 ∧ j = 0 := by omega
  obtain ⟨rfl, rfl⟩ := this
  simp only [alM]; omega
theorem made_gls (l : List (List Int)) : Pure Tryz.prog 158 [eFn (madeS l)] (vint .i64 0) := by
 have hA := axes_len l
 have hA2 := mdA_le (l.getD 0 [])
 refine gls_ok _ ⟨by rw [gls_len]; decide, fun k hk => ?_, fun k j hk hj => ?_, fun k hk => ?_, fun k hk hp => ?_, fun k hk hp => ?_, fun k hk => ?_⟩
 all_goals rw [gls_len] at hk
 ·rw [gls_at l hk, name_M]; exact nmK_ok k hk
 ·rw [gls_at l hk, gls_at l (by omega), name_M, name_M]; exact nmK_dis k hk j hj
 ·rw [gls_at l hk]; exact adv_M _ _ _
 ·rw [gls_at l hk] at hp ⊢
  rcases parts_M l (mdA (l.getD 0 [])) k with e | rfl
  ·rw [e] at hp; simp at hp
  obtain ⟨e1, e2, e3, e4⟩ := gl6_at l (mdA (l.getD 0 []))
  have hd : ∀ i : Int, 0 ≤ i → i < 6 → dpS (madeS l) i.toNat = 0 := fun i h0 h1 => by
   rw [dpS, gls_at l (by omega)]
   rcases parts_M l (mdA (l.getD 0 [])) i.toNat with e | e
   ·rw [e]; rfl
   ·omega
  have a := v1b (l.getD 6 []) (n1 (l.getD 6 []) 0) 5 (by decide)
  have b := v1b (l.getD 6 []) (n2 (l.getD 6 []) 0) 3 (by decide)
  have c := v1b (l.getD 6 []) (n3 (l.getD 6 []) 0) 5 (by decide)
  have d := v1b (l.getD 6 []) (n4 (l.getD 6 []) 0) 3 (by decide)
  refine ⟨e1, e2, by rw [e4]; rfl, by rw [e3]; simp [glPts], fun i hi => ?_⟩
  rw [e3] at hi ⊢
  have hi : i < 2 := hi
  rcases i with _ | _ | i
  ·show (0 ≤ 1 + v1 (l.getD 6 []) (n1 (l.getD 6 []) 0) 5 ∧ 1 + v1 (l.getD 6 []) (n1 (l.getD 6 []) 0) 5 < (6 : Nat)) ∧ dpS (madeS l) (1 + v1 (l.getD 6 []) (n1 (l.getD 6 []) 0) 5).toNat = 0 ∧ (-512 ≤ 4 * v1 (l.getD 6 []) (n2 (l.getD 6 []) 0) 3 ∧ 4 * v1 (l.getD 6 []) (n2 (l.getD 6 []) 0) 3 ≤ 512) ∧ -512 ≤ (0 : Int) ∧ (0 : Int) ≤ 512
   refine ⟨by omega, hd _ (by omega) (by omega), by omega, by omega⟩
  ·show (0 ≤ 1 + v1 (l.getD 6 []) (n3 (l.getD 6 []) 0) 5 ∧ 1 + v1 (l.getD 6 []) (n3 (l.getD 6 []) 0) 5 < (6 : Nat)) ∧ dpS (madeS l) (1 + v1 (l.getD 6 []) (n3 (l.getD 6 []) 0) 5).toNat = 0 ∧ (-512 ≤ (8 : Int) ∧ (8 : Int) ≤ 512) ∧ -512 ≤ 8 * v1 (l.getD 6 []) (n4 (l.getD 6 []) 0) 3 ∧ 8 * v1 (l.getD 6 []) (n4 (l.getD 6 []) 0) 3 ≤ 512
   refine ⟨by omega, hd _ (by omega) (by omega), by omega, by omega⟩
  ·omega
 ·rw [gls_at l hk] at hp ⊢
  by_cases h0 : k = 0
  ·subst h0
   obtain ⟨c, d, r, hv⟩ := ver_ok (0, 0) (cnt ([] : List (List Pt))) (by decide) (.inl rfl)
   exact fsim_ok _ (glM l (mdA (l.getD 0 [])) 0) c d r okO_nil ⟨by simp [glM, glB], fun j hj => absurd hj (by simp [glM, glB]), fun j hj => absurd hj (by simp [glM, glB])⟩ (by omega) hv
  by_cases h6 : k = 6
  ·subst h6
   rw [(gl6_at l _).2.2.1] at hp
   exact absurd hp (by simp [glPts])
  obtain ⟨e1, e2, e3, e4⟩ := glM_at l (mdA (l.getD 0 [])) k h0 h6
  have hb := hintM_b (l.getD k []) (glS1 (l.getD k []))
  have hc := shp_len (shp_outM (l.getD k []) (n1 (l.getD k []) 0) k)
  obtain ⟨c, d, r, hv⟩ := ver_ok (hintM (l.getD k []) (glS1 (l.getD k []))) (cnt (glOut (l.getD k []) k)) hb.1 (.inr (by simp only [glOut]; omega))
  refine fsim_ok _ (glM l (mdA (l.getD 0 [])) k) c d r (by rw [e1]; exact okO_outM _ _ _ (by omega)) ⟨?_, fun j hj => ?_, fun j hj i hi => ?_⟩ (by omega) (by rw [e1, e4]; exact hv)
  ·rw [e2]; have := dels_len (l.getD k []) (cnt (glOut (l.getD k []) k)) (mdA (l.getD 0 [])) (n2 (l.getD k []) (glS1 (l.getD k []))); simp only [glDel]; omega
  ·rw [e2] at hj ⊢
   rw [e1, hA]
   obtain ⟨f1, f2, f3, _⟩ := del_fit _ _ _ _ j hj
   exact ⟨f1, f2, f3⟩
  ·rw [e2] at hj hi ⊢
   exact (del_fit _ _ _ _ j hj).2.2.2 i hi
 ·rw [gls_at l hk, gls_len]; exact alts_M l _ k hk
theorem made_valid (l : List (List Int)) : Pure Tryz.prog 44 [eFn (madeS l)] (vint .i64 0) := fck_ok _ (made_head l) (made_gls l) (made_chs l) (made_lks l) (made_kern l)
end Go.Proofs.YtekhlnihpfkkkaaGreatDoor
namespace Go.Proofs.YtekhlnihpfkkkaaGreatDoor
open Go.Eng
structure LawD where
 l2 : List (List Int)
 F : Ft
 P : List Int
 s : Int
 own : Nat → List (List Pt)
 ins : Nat → List (List Pt)
 fc : Nat → Int
 fd : Nat → Int
 rc : Nat → List Int
 mv : Nat → Nat → Nat → Bool
 th : Nat → Nat → Nat → Nat → Bool
def LawD.g (q : LawD) (k : Nat) : Gl := q.F.gls.getD k gl0
def pcLa (q : LawD) : FuncId → List PV → Option D := fun f _ =>
 bif Nat.beq f 4 then some (vbool true) else bif Nat.beq f 6 then some (.p (eLL q.l2)) else bif Nat.beq f 5 then some (.p (eFn q.F)) else bif Nat.beq f 7 then some (.p (eIs q.P)) else none
def peLa (q : LawD) : Env → FuncId → List PV → Option D := fun E f _ =>
 bif Nat.beq f 8 then wD E 11 (fun k => some (.tup [.p (eO (q.own k)), vint .i64 0]))
 else bif Nat.beq f 9 then wD E 11 (fun k => some (.tup [.p (eO (q.ins k)), vint .i64 0]))
 else bif Nat.beq f 10 then wD E 11 (fun k => some (.tup [.p (.agg [eI (q.fc k), eI (q.fd k), eIs (q.rc k)]), vint .i64 0]))
 else bif Nat.beq f 11 then wD E 11 (fun k => some (vint .i64 (cnt (q.g k).out)))
 else bif Nat.beq f 12 then wD E 11 (fun k => wD E 103 fun z => some (.p (eIs ((q.rc k).take (z + 1)))))
 else none
def lpLa (q : LawD) : Nat → Env → List O → Option LH := fun r E H =>
 bif Nat.beq r 5 then some (mkLH E H [7, 8, 9, 10, 46, 47] [] (fun k : Nat => [(48, none, vint .i64 k)]) (fun _ => []) (fun k => k ≤ q.F.gls.length) (fun k => q.F.gls.length - k))
 else wK E 11 none fun k =>
  bif Nat.beq r 15 then some (mkLH E H [7, 8, 9, 10, 46, 47, 48, 11, 13, 15, 101, 102] [] (fun z : Nat => [(103, none, vint .i64 z), (19, none, .p (eIs ((q.rc k).take z)))]) (fun _ => []) (fun z => z ≤ (q.rc k).length) (fun z => (q.rc k).length - z))
  else bif Nat.beq r 21 then some (mkLH E H [7, 8, 9, 10, 46, 47, 48, 11, 13, 15, 19, 111, 112] [] (fun c : Nat => [(113, none, vint .i64 c), (22, none, vint .i64 (off (q.ins k) c))]) (fun _ => []) (fun c => c ≤ (q.own k).length) (fun c => (q.own k).length - c))
  else wK E 23 none fun c =>
   bif Nat.beq r 26 then some (mkLH E H [7, 8, 9, 10, 46, 47, 48, 11, 13, 15, 19, 111, 112, 113, 23, 130, 131] [] (fun i : Nat => [(132, none, vint .i64 i), (22, none, vint .i64 (off (q.ins k) c + i : Nat))]) (fun _ => []) (fun i => i ≤ ((q.ins k).getD c []).length) (fun i => ((q.ins k).getD c []).length - i))
   else wK E 24 none fun i => some (mkLH E H [7, 8, 9, 10, 46, 47, 48, 11, 13, 15, 19, 111, 112, 113, 23, 130, 131, 132, 22, 24, 25, 165, 166] [] (fun z : Nat => [(167, none, vint .i64 z), (27, none, vbool (q.th k c i z)), (26, none, vbool (q.mv k c i))]) (fun _ => []) (fun z => z ≤ (q.rc k).length) (fun z => (q.rc k).length - z))
def reLa (q : LawD) (p : List Int) : Env → Nat → RH → RH := fun E r R =>
 bif Nat.beq r 2 then { R with hs := [(6, vint .i64 q.s)] }
 else bif Nat.beq r 3 then { R with hs := [(5, .p (eIs (p.take 8)))] }
 else bif Nat.beq r 11 then { R with hs := [(15, vbool false)] }
 else bif Nat.beq r 23 then { R with hs := [(10, vbool false)] }
 else bif Nat.beq r 28 then wR E 11 R fun k => wR E 23 R fun c => wR E 24 R fun i => { R with g := 0, hs := [(27, vbool (q.mv k c i))] }
 else bif Nat.beq r 33 then wR E 11 R fun k => wR E 23 R fun c => wR E 24 R fun i => wR E 167 R fun z => { R with g := 0, hs := [(5, vbool (q.th k c i (z + 1)))] }
 else bif Nat.beq r 35 then { R with g := 0, hs := [(4, vbool false), (16, vbool false)] }
 else R
def hLa (q : LawD) (p : List Int) : FuncId → FH := fun _ => { sp := [49, 56, 104, 114, 133, 168], pc := pcLa q, pe := peLa q, re := reLa q p, lp := lpLa q, reg := fun _ => { g := 1, sh := none } }
structure OkK (q : LawD) (k : Nat) : Prop where
 h8 : Pure Tryz.prog 8 [eFn q.F, eI k, eIs q.P, eI q.s] (.tup [.p (eO (q.own k)), vint .i64 0])
 h9 : Pure Tryz.prog 9 [eO (q.g k).out, eDls (q.g k).del, eIs q.P] (.tup [.p (eO (q.ins k)), vint .i64 0])
 h11 : Pure Tryz.prog 11 [eO (q.g k).out] (vint .i64 (cnt (q.g k).out))
 h10 : Pure Tryz.prog 10 [eTs (hpM (q.g k).hint), eI (cnt (q.g k).out)] (.tup [.p (.agg [eI (q.fc k), eI (q.fd k), eIs (q.rc k)]), vint .i64 0])
 len : (q.own k).length = (q.ins k).length
 big : (q.own k).length < 2 ^ 20 ∧ cnt (q.ins k) < 2 ^ 20
 rch : (q.rc k).length ≤ 1
 row : ∀ c, c < (q.own k).length → ((q.own k).getD c []).length = ((q.ins k).getD c []).length
 mvd : ∀ c i, c < (q.own k).length → i < ((q.ins k).getD c []).length → (bif (((q.own k).getD c []).getD i pt0).1 != IntKind.wrap .i64 ((((q.ins k).getD c []).getD i pt0).1 * q.s) then true else (((q.own k).getD c []).getD i pt0).2.1 != IntKind.wrap .i64 ((((q.ins k).getD c []).getD i pt0).2.1 * q.s)) = q.mv k c i
 on : ∀ c i, c < (q.own k).length → i < ((q.ins k).getD c []).length → (((q.own k).getD c []).getD i pt0).2.2 = (((q.ins k).getD c []).getD i pt0).2.2
 th0 : ∀ c i, q.th k c i 0 = false
 th1 : ∀ c i z, z < (q.rc k).length → (bif q.th k c i z then true else (q.rc k).getD z 0 == ((off (q.ins k) c + i : Nat) : Int)) = q.th k c i (z + 1)
 fin : ∀ c i, c < (q.own k).length → i < ((q.ins k).getD c []).length → (bif q.mv k c i then !q.th k c i (q.rc k).length else false) = false
set_option maxRecDepth 100000 in
theorem law_of (q : LawD) (l : List (List Int)) (p : List Int) (z : Int) (h4 : Pure Tryz.prog 4 [] (vbool true)) (h6 : Pure Tryz.prog 6 [eLL l] (.p (eLL q.l2))) (h5 : Pure Tryz.prog 5 [eLL q.l2] (.p (eFn q.F))) (h7 : Pure Tryz.prog 7 [eFn q.F, eIs (p.take 8)] (.p (eIs q.P))) (hz : IntKind.wrap .i64 (6 + IntKind.wrap .i64 (z.tmod 6)) = q.s) (hF : q.F.gls.length < 2 ^ 20) (hk : ∀ k, k < q.F.gls.length → (q.g k).parts.length = 0 → OkK q k) : Pure Tryz.prog 3 [eLL l, eIs p, .v (.int .u8 z)] (vbool true) := by
 let K : D → Prop := fun d => endL (vbool true) d []
 refine pure_byL 20 (hLa q p) (p :=
  let a0_19 : Int := (↑q.F.gls.length : Int); let a0_18 : List Int := List.take 8 p; let a0_17 : Nat := a0_18.length; let a0_16 : List D := [vint IntKind.i64 (0 : Int)]; let a0_15 : Int := min (↑p.length : Int) (8 : Int); let a0_14 : PV := PV.lst 7 q.F.gls.length fun (i : Nat) => eGl (q.F.gls.getD i gl0); let a0_13 : Nat × Option Bool × D := (7, none, D.p (PV.v (Value.bool true))); let a0_12 : PV := PV.lst 1 q.P.length fun (i : Nat) => eI (q.P.getD i (0 : Int)); let a0_11 : Nat × Option Bool × D := (9, none, D.p (PV.v (Value.int IntKind.i64 q.s))); let a0_10 : Nat × Option Bool × D := (8, none, D.ref 0 []); let a0_9 : Nat × Option Bool × D := (25, none, D.ref 3 []); let a0_8 : Nat := a0_15.toNat - 0; let a0_7 : Nat × Option Bool × D := (47, none, D.p (PV.v (Value.int IntKind.i64 a0_19))); let a0_6 : Nat × Option Bool × D := (46, none, D.p a0_14); let a0_5 : Nat × Option Bool × D := (10, none, D.p a0_12); let a0_4 : PV := PV.agg [PV.s q.F.name, PV.v (Value.int IntKind.i64 q.F.ver), PV.lst 4 q.F.axes.length fun (i : Nat) => eAx (q.F.axes.getD i ax0), a0_14, PV.lst 2 q.F.chars.length fun (i : Nat) => eR (q.F.chars.getD i ((0 : Int), (0 : Int))), PV.lst 1 q.F.lks.length fun (i : Nat) => eLk (q.F.lks.getD i []), PV.lst 3 q.F.kerns.length fun (i : Nat) => eT (q.F.kerns.getD i tn0)]; let a0_3 : O := O.box (D.p a0_4); let a0_2 : List O := [a0_3]; let a0_1 : List (Nat × Option Bool × D) := [a0_13, a0_10, a0_11, a0_5, a0_6, a0_7]; let a0_0 : Prop := a0_1 = a0_1 ∧ a0_2 = a0_2; Eng.Pure Tryz.prog 4 [] (vbool true) ∧ Eng.Pure Tryz.prog 6 [PV.lst 1 l.length fun (i : Nat) => eIs (l.getD i [])] (D.p (eLL q.l2)) ∧ Eng.Pure Tryz.prog 5 [PV.lst 1 q.l2.length fun (i : Nat) => eIs (q.l2.getD i [])] (D.p (eFn q.F)) ∧ ((6 : Int) = (0 : Int) → False) ∧ IntKind.i64.wrap ((6 : Int) + IntKind.i64.wrap (z.tmod (6 : Int))) = q.s ∧ (0 : Int) ≤ (0 : Int) ∧ (0 : Int) ≤ a0_15 ∧ a0_15 ≤ (↑p.length : Int) ∧ (a0_8 = a0_17 ∧ ∀ (j : Nat), j < a0_8 → eI (p.getD (0 + j) (0 : Int)) = eI (a0_18.getD j (0 : Int))) ∧ Eng.Pure Tryz.prog 7 [a0_4, PV.lst 1 a0_17 fun (i : Nat) => eI (a0_18.getD i (0 : Int))] (D.p (eIs q.P)) ∧ (∃ (x : Nat), x ≤ q.F.gls.length ∧ Int.ofNat 0 = (↑x : Int) ∧ a0_0) ∧ ∀ (z : Nat), let a1_35 : Nat := (q.rc (↑z : Int).toNat).length; let a1_34 : Nat := (q.ins (↑z : Int).toNat).length; let a1_33 : Nat := (q.own (↑z : Int).toNat).length; let a1_32 : Int := (↑a1_35 : Int); let a1_31 : Int := (↑(cnt (q.g (↑z : Int).toNat).out) : Int); let a1_30 : List Tn := (q.F.gls.getD (↑z : Int).toNat gl0).parts; let a1_29 : List Int := (q.F.gls.getD (↑z : Int).toNat gl0).alts; let a1_28 : List (List Pt) := (q.F.gls.getD (↑z : Int).toNat gl0).out; let a1_27 : List Dl := (q.F.gls.getD (↑z : Int).toNat gl0).del; let a1_26 : Int := (↑a1_34 : Int); let a1_25 : Int := (↑a1_33 : Int); let a1_24 : Nat := q.F.gls.length - z; let a1_23 : List Tn := hpM (q.F.gls.getD (↑z : Int).toNat gl0).hint; let a1_22 : Nat := a1_30.length; let a1_21 : Option Bool × D := (none, D.p (PV.v (Value.int IntKind.i64 (↑z : Int)))); let a1_20 : Int := (↑a1_22 : Int); let a1_19 : Int := IntKind.i64.wrap ((↑z : Int) + (1 : Int)); let a1_18 : Nat × Option Bool × D := (48, none, vint IntKind.i64 (↑z : Int)); let a1_17 : Nat × Option Bool × D := (11, a1_21); let a1_16 : Nat × Option Bool × D := (48, a1_21); let a1_15 : PV := PV.lst 1 a1_35 fun (i : Nat) => eI ((q.rc (↑z : Int).toNat).getD i (0 : Int)); let a1_14 : Nat × Option Bool × D := (112, none, D.p (PV.v (Value.int IntKind.i64 a1_25))); let a1_13 : Option Bool × D := (none, D.p (PV.lst 1 a1_33 fun (i : Nat) => eC ((q.own (↑z : Int).toNat).getD i []))); let a1_12 : PV := PV.lst 2 a1_27.length fun (i : Nat) => eDl (a1_27.getD i dl0); let a1_11 : PV := PV.lst 3 a1_23.length fun (i : Nat) => eT (a1_23.getD i tn0); let a1_10 : PV := PV.lst 1 a1_28.length fun (i : Nat) => eC (a1_28.getD i []); let a1_9 : Nat × Option Bool × D := (13, a1_13); let a1_8 : Nat × Option Bool × D := (111, a1_13); let a1_7 : Nat × Option Bool × D := (15, none, D.p (PV.lst 1 a1_34 fun (i : Nat) => eC ((q.ins (↑z : Int).toNat).getD i []))); let a1_6 : O := O.box (D.p (PV.agg [PV.v (Value.int IntKind.i64 (q.fc (↑z : Int).toNat)), PV.v (Value.int IntKind.i64 (q.fd (↑z : Int).toNat)), a1_15])); let a1_5 : List (Nat × Option Bool × D) := [a1_8, a1_14]; let a1_4 : O := O.box (D.p (PV.agg [PV.s (q.F.gls.getD (↑z : Int).toNat gl0).name, PV.v (Value.int IntKind.i64 (q.F.gls.getD (↑z : Int).toNat gl0).adv), a1_10, a1_12, PV.lst 3 a1_22 fun (i : Nat) => eT (a1_30.getD i tn0), a1_11, PV.lst 1 a1_29.length fun (i : Nat) => eI (a1_29.getD i (0 : Int))])); let a1_3 : List (Nat × Option Bool × D) := [a1_17, a1_9, a1_7, (101, none, D.p a1_15), (102, none, D.p (PV.v (Value.int IntKind.i64 a1_32)))]; let a1_2 : List O := [a0_3, a1_4, a1_6]; let a1_1 : Prop := a1_2 = a1_2; let a1_0 : Prop := a0_13 :: a0_10 :: a0_11 :: a0_5 :: a0_6 :: a0_7 :: a1_16 :: a1_3 = a0_13 :: a0_10 :: a0_11 :: a0_5 :: a0_6 :: a0_7 :: a1_18 :: a1_3 ∧ a1_1; z ≤ q.F.gls.length → (decide ((↑z : Int) < a0_19) = true → (0 : Int) ≤ (↑z : Int) ∧ (↑z : Int) < a0_19 ∧ (decide ((0 : Int) < a1_20) = true → ∃ (y : Nat), y ≤ q.F.gls.length ∧ q.F.gls.length - y < a1_24 ∧ a1_19 = (↑y : Int) ∧ a0_0) ∧ (decide ((0 : Int) < a1_20) = false → Eng.Pure Tryz.prog 8 [a0_4, PV.v (Value.int IntKind.i64 (↑z : Int)), a0_12, PV.v (Value.int IntKind.i64 q.s)] (D.tup (D.p (eO (q.own (↑z : Int).toNat)) :: a0_16)) ∧ Eng.Pure Tryz.prog 9 [a1_10, a1_12, a0_12] (D.tup (D.p (eO (q.ins (↑z : Int).toNat)) :: a0_16)) ∧ Eng.Pure Tryz.prog 11 [a1_10] (vint IntKind.i64 a1_31) ∧ Eng.Pure Tryz.prog 10 [a1_11, PV.v (Value.int IntKind.i64 a1_31)] (D.tup (D.p (PV.agg [eI (q.fc (↑z : Int).toNat), eI (q.fd (↑z : Int).toNat), eIs (q.rc (↑z : Int).toNat)]) :: a0_16)) ∧ (a1_25 != a1_26) = false ∧ (∃ (x : Nat), x ≤ a1_35 ∧ Int.ofNat 0 = (↑x : Int) ∧ (List.take x (q.rc (↑z : Int).toNat)).length = 0 ∧ a1_0) ∧ ∀ (z_1 : Nat), let a2_9 : List Int := List.take z_1 (q.rc (↑z : Int).toNat); let a2_8 : Nat := a2_9.length; let a2_7 : Int := (↑a2_8 : Int); let a2_6 : List Int := List.take ((↑z_1 : Int).toNat + 1) (q.rc (↑z : Int).toNat); let a2_5 : Nat := a2_6.length; let a2_4 : Nat × Option Bool × D := (19, none, D.p (eIs a2_9)); let a2_3 : PV := PV.lst 1 a2_8 fun (i : Nat) => eI (a2_9.getD i (0 : Int)); let a2_2 : List (Nat × Option Bool × D) := a1_17 :: a1_9 :: a1_7 :: a2_4 :: a1_5; let a2_1 : List (Nat × Option Bool × D) := [a0_9, (165, none, D.p a2_3), (166, none, D.p (PV.v (Value.int IntKind.i64 a2_7)))]; let a2_0 : Prop := a0_13 :: a0_10 :: a0_11 :: a0_5 :: a0_6 :: a0_7 :: a1_16 :: a2_2 = a0_13 :: a0_10 :: a0_11 :: a0_5 :: a0_6 :: a0_7 :: a1_18 :: a2_2 ∧ a1_1; z_1 ≤ a1_35 → (decide ((↑z_1 : Int) < a1_32) = true → (0 : Int) ≤ (↑z_1 : Int) ∧ (↑z_1 : Int) < a1_32 ∧ Eng.Pure Tryz.prog 12 [a2_3, PV.v (Value.int IntKind.i64 ((q.rc (↑z : Int).toNat).getD (↑z_1 : Int).toNat (0 : Int)))] (D.p (eIs a2_6)) ∧ ∃ (y : Nat), let a3_0 : List Int := List.take y (q.rc (↑z : Int).toNat); y ≤ a1_35 ∧ a1_35 - y < a1_35 - z_1 ∧ IntKind.i64.wrap ((↑z_1 : Int) + (1 : Int)) = (↑y : Int) ∧ (a2_5 = a3_0.length ∧ ∀ (j : Nat), j < a2_5 → eI (a2_6.getD j (0 : Int)) = eI (a3_0.getD j (0 : Int))) ∧ a1_0) ∧ (decide ((↑z_1 : Int) < a1_32) = false → (∃ (x : Nat), x ≤ a1_33 ∧ Int.ofNat 0 = (↑x : Int) ∧ Int.ofNat 0 = (↑(off (q.ins (↑z : Int).toNat) x) : Int) ∧ a2_0) ∧ ∀ (z_2 : Nat), let a3_13 : Nat := off (q.ins (↑z : Int).toNat) (↑z_2 : Int).toNat; let a3_12 : Option Bool × D := (none, D.p (PV.v (Value.int IntKind.i64 (↑z_2 : Int)))); let a3_11 : List Pt := (q.own (↑z : Int).toNat).getD (↑z_2 : Int).toNat []; let a3_10 : List Pt := (q.ins (↑z : Int).toNat).getD (↑z_2 : Int).toNat []; let a3_9 : Nat := a3_10.length; let a3_8 : Int := (↑a3_11.length : Int); let a3_7 : Int := (↑a3_9 : Int); let a3_6 : Nat × Option Bool × D := (113, none, vint IntKind.i64 (↑z_2 : Int)); let a3_5 : Nat × Option Bool × D := (23, a3_12); let a3_4 : Nat × Option Bool × D := (113, a3_12); let a3_3 : Nat × Option Bool × D := (131, none, D.p (PV.v (Value.int IntKind.i64 a3_7))); let a3_2 : Nat × Option Bool × D := (130, none, D.p (PV.lst 3 a3_9 fun (i : Nat) => ePt (a3_10.getD i pt0))); let a3_1 : List (Nat × Option Bool × D) := [a3_5, a3_2, a3_3]; let a3_0 : Prop := a0_13 :: a0_10 :: a0_11 :: a0_5 :: a0_6 :: a0_7 :: a1_16 :: a1_17 :: a1_9 :: a1_7 :: a2_4 :: a1_8 :: a1_14 :: a3_4 :: a3_1 = a0_13 :: a0_10 :: a0_11 :: a0_5 :: a0_6 :: a0_7 :: a1_18 :: a1_17 :: a1_9 :: a1_7 :: a2_4 :: a1_8 :: a1_14 :: a3_6 :: a3_1 ∧ a1_1; z_2 ≤ a1_33 → (decide ((↑z_2 : Int) < a1_25) = true → (0 : Int) ≤ (↑z_2 : Int) ∧ (↑z_2 : Int) < a1_25 ∧ (0 : Int) ≤ (↑z_2 : Int) ∧ (↑z_2 : Int) < a1_26 ∧ (a3_8 != a3_7) = false ∧ (0 : Int) ≤ (↑z_2 : Int) ∧ (↑z_2 : Int) < a1_26 ∧ (∃ (x : Nat), x ≤ a3_9 ∧ Int.ofNat 0 = (↑x : Int) ∧ (↑(off (q.ins (↑z : Int).toNat) z_2) : Int) = (↑(a3_13 + x) : Int) ∧ a3_0) ∧ ∀ (z_3 : Nat), let a4_12 : Pt := a3_10.getD (↑z_3 : Int).toNat pt0; let a4_11 : Pt := a3_11.getD (↑z_3 : Int).toNat pt0; let a4_10 : Int := (↑(a3_13 + z_3) : Int); let a4_9 : Int × Bool := a4_12.snd; let a4_8 : Option Bool × D := (none, D.p (PV.v (Value.int IntKind.i64 (↑z_3 : Int)))); let a4_7 : Int × Bool := a4_11.snd; let a4_6 : Int := a4_11.fst; let a4_5 : Int := a4_12.fst; let a4_4 : Int := a4_9.fst; let a4_3 : Int := IntKind.i64.wrap (a4_5 * q.s); let a4_2 : List (Nat × Option Bool × D) := (24, a4_8) :: a2_1; let a4_1 : List O := [a0_3, a1_4, a1_6, O.box (D.p (PV.agg [PV.v (Value.int IntKind.i64 a4_5), PV.v (Value.int IntKind.i64 a4_4), PV.v (Value.bool a4_9.snd)]))]; let a4_0 : Prop := q.mv (↑z : Int).toNat (↑z_2 : Int).toNat (↑z_3 : Int).toNat = q.mv (↑z : Int).toNat (↑z_2 : Int).toNat (↑z_3 : Int).toNat ∧ a0_13 :: a0_10 :: a0_11 :: a0_5 :: a0_6 :: a0_7 :: a1_16 :: a1_17 :: a1_9 :: a1_7 :: a2_4 :: a1_8 :: a1_14 :: a3_4 :: a3_5 :: a3_2 :: a3_3 :: (132, a4_8) :: (22, none, D.p (PV.v (Value.int IntKind.i64 a4_10))) :: a4_2 = a0_13 :: a0_10 :: a0_11 :: a0_5 :: a0_6 :: a0_7 :: a1_18 :: a1_17 :: a1_9 :: a1_7 :: a2_4 :: a1_8 :: a1_14 :: a3_6 :: a3_5 :: a3_2 :: a3_3 :: (132, none, vint IntKind.i64 (↑z_3 : Int)) :: (22, none, vint IntKind.i64 a4_10) :: a4_2 ∧ a4_1 = a4_1; z_3 ≤ a3_9 → (decide ((↑z_3 : Int) < a3_7) = true → (0 : Int) ≤ (↑z_3 : Int) ∧ (↑z_3 : Int) < a3_7 ∧ (0 : Int) ≤ (↑z_2 : Int) ∧ (↑z_2 : Int) < a1_25 ∧ (0 : Int) ≤ (↑z_3 : Int) ∧ (↑z_3 : Int) < a3_8 ∧ ((!a4_6 != a4_3) = true → (!a4_6 != a4_3) = true) ∧ ((!a4_6 != a4_3) = true → (!a4_6 != a4_3) = true) ∧ ((!a4_6 != a4_3) = true → (0 : Int) ≤ (↑z_2 : Int)) ∧ ((!a4_6 != a4_3) = true → (↑z_2 : Int) < a1_25) ∧ ((!a4_6 != a4_3) = true → (!a4_6 != a4_3) = true) ∧ ((!a4_6 != a4_3) = true → (!a4_6 != a4_3) = true) ∧ ((!a4_6 != a4_3) = true → (!a4_6 != a4_3) = true) ∧ ((!a4_6 != a4_3) = true → (0 : Int) ≤ (↑z_3 : Int)) ∧ ((!a4_6 != a4_3) = true → (↑z_3 : Int) < a3_8) ∧ ((!a4_6 != a4_3) = true → (!a4_6 != a4_3) = true) ∧ ((!a4_6 != a4_3) = true → (!a4_6 != a4_3) = true) ∧ ((!a4_6 != a4_3) = true → (!a4_6 != a4_3) = true) ∧ ((!a4_6 != a4_3) = true → (!a4_6 != a4_3) = true) ∧ ((!a4_6 != a4_3) = true → (!a4_6 != a4_3) = true) ∧ ((!a4_6 != a4_3) = true → (!a4_6 != a4_3) = true) ∧ ((!a4_6 != a4_3) = true → (!a4_6 != a4_3) = true) ∧ ((!a4_6 != a4_3) = true → (!a4_6 != a4_3) = true) ∧ (bif a4_6 != a4_3 then true else a4_7.fst != IntKind.i64.wrap (a4_4 * q.s)) = q.mv (↑z : Int).toNat (↑z_2 : Int).toNat (↑z_3 : Int).toNat ∧ (∃ (x : Nat), x ≤ a1_35 ∧ Int.ofNat 0 = (↑x : Int) ∧ false = q.th (↑z : Int).toNat (↑z_2 : Int).toNat (↑z_3 : Int).toNat x ∧ a4_0) ∧ ∀ (z_4 : Nat), let a5_0 : Nat := (↑z_4 : Int).toNat + 1; z_4 ≤ a1_35 → (decide ((↑z_4 : Int) < a2_7) = true → (0 : Int) ≤ (↑z_4 : Int) ∧ (↑z_4 : Int) < a2_7 ∧ ((!q.th (↑z : Int).toNat (↑z_2 : Int).toNat (↑z_3 : Int).toNat z_4) = true → (!q.th (↑z : Int).toNat (↑z_2 : Int).toNat (↑z_3 : Int).toNat z_4) = true) ∧ ((!q.th (↑z : Int).toNat (↑z_2 : Int).toNat (↑z_3 : Int).toNat z_4) = true → (!q.th (↑z : Int).toNat (↑z_2 : Int).toNat (↑z_3 : Int).toNat z_4) = true) ∧ ((!q.th (↑z : Int).toNat (↑z_2 : Int).toNat (↑z_3 : Int).toNat z_4) = true → (!q.th (↑z : Int).toNat (↑z_2 : Int).toNat (↑z_3 : Int).toNat z_4) = true) ∧ (bif q.th (↑z : Int).toNat (↑z_2 : Int).toNat (↑z_3 : Int).toNat z_4 then true else a2_9.getD (↑z_4 : Int).toNat (0 : Int) == a4_10) = q.th (↑z : Int).toNat (↑z_2 : Int).toNat (↑z_3 : Int).toNat a5_0 ∧ ∃ (y : Nat), y ≤ a1_35 ∧ a1_35 - y < a1_35 - z_4 ∧ IntKind.i64.wrap ((↑z_4 : Int) + (1 : Int)) = (↑y : Int) ∧ q.th (↑z : Int).toNat (↑z_2 : Int).toNat (↑z_3 : Int).toNat a5_0 = q.th (↑z : Int).toNat (↑z_2 : Int).toNat (↑z_3 : Int).toNat y ∧ a4_0) ∧ (decide ((↑z_4 : Int) < a2_7) = false → (q.mv (↑z : Int).toNat (↑z_2 : Int).toNat (↑z_3 : Int).toNat = true → q.mv (↑z : Int).toNat (↑z_2 : Int).toNat (↑z_3 : Int).toNat = true) ∧ (q.mv (↑z : Int).toNat (↑z_2 : Int).toNat (↑z_3 : Int).toNat = true → q.mv (↑z : Int).toNat (↑z_2 : Int).toNat (↑z_3 : Int).toNat = true) ∧ (bif q.mv (↑z : Int).toNat (↑z_2 : Int).toNat (↑z_3 : Int).toNat then !q.th (↑z : Int).toNat (↑z_2 : Int).toNat (↑z_3 : Int).toNat z_4 else false) = false ∧ ((!false) = true → (!false) = true) ∧ ((!false) = true → (!false) = true) ∧ ((!false) = true → (0 : Int) ≤ (↑z_2 : Int)) ∧ ((!false) = true → (↑z_2 : Int) < a1_25) ∧ ((!false) = true → (!false) = true) ∧ ((!false) = true → (!false) = true) ∧ ((!false) = true → (!false) = true) ∧ ((!false) = true → (0 : Int) ≤ (↑z_3 : Int)) ∧ ((!false) = true → (↑z_3 : Int) < a3_8) ∧ ((!false) = true → (!false) = true) ∧ ((!false) = true → (!false) = true) ∧ ((!false) = true → (!false) = true) ∧ ((!false) = true → (!false) = true) ∧ ((!false) = true → (!false) = true) ∧ ((!false) = true → (!a4_7.snd == a4_9.snd) = false) ∧ ((!false) = true → (!false) = true) ∧ ∃ (y : Nat), y ≤ a3_9 ∧ a3_9 - y < a3_9 - z_3 ∧ IntKind.i64.wrap ((↑z_3 : Int) + (1 : Int)) = (↑y : Int) ∧ IntKind.i64.wrap (a4_10 + (1 : Int)) = (↑(a3_13 + y) : Int) ∧ a3_0)) ∧ (decide ((↑z_3 : Int) < a3_7) = false → ∃ (y : Nat), y ≤ a1_33 ∧ a1_33 - y < a1_33 - z_2 ∧ IntKind.i64.wrap ((↑z_2 : Int) + (1 : Int)) = (↑y : Int) ∧ a4_10 = (↑(off (q.ins (↑z : Int).toNat) y) : Int) ∧ a2_0)) ∧ (decide ((↑z_2 : Int) < a1_25) = false → ∃ (y : Nat), y ≤ q.F.gls.length ∧ q.F.gls.length - y < a1_24 ∧ a1_19 = (↑y : Int) ∧ a0_0)))) ∧ (decide ((↑z : Int) < a0_19) = false → K (D.p (PV.v (Value.bool true))))) (by kernel_rfl) ?_
 simp only [Int.toNat_natCast, decide_eq_true_eq, decide_eq_false_iff_not, and_true, true_and]
 have hw : ∀ k : Nat, k < 2 ^ 40 → IntKind.wrap .i64 ((k : Int) + 1) = ((k + 1 : Nat) : Int) := fun k hk => wr64 (by omega) (by omega) (by omega)
 have hlt8 : (p.take 8).length = min 8 p.length := List.length_take
 refine ⟨h4, h6, h5, by decide, hz, by omega, by omega, by omega, ⟨by omega, fun j hj => ?_⟩, h7, ⟨0, by omega, rfl⟩, fun k hkl => ⟨fun hlt => ⟨by omega, hlt, fun hp => ⟨k + 1, by omega, by omega, hw _ (by omega)⟩, fun hp => ?_⟩, fun _ => leP_refl _⟩⟩
 ·rw [Nat.zero_add]
  congr 1
  simp only [List.getD, List.getElem?_take]
  rw [if_pos (by omega)]
 have ok := hk k (by omega) (by simp only [LawD.g]; omega)
 have hb := ok.big
 have hr1 := ok.rch
 have hlen := ok.len
 refine ⟨ok.h8, ok.h9, ok.h11, ok.h10, by rw [ok.len]; simp, ⟨0, by omega, rfl, rfl⟩, fun r hr => ⟨fun h1 => ⟨by omega, h1, ?_, r + 1, by omega, by omega, hw _ (by omega), rfl, fun _ _ => rfl⟩, fun h1 => ?_⟩⟩
 ·have e0 : r = 0 := by omega
  subst e0
  have e1 : (q.rc k).take (0 + 1) = [(q.rc k).getD 0 0] := by
   match h : q.rc k, hr1 with
   | [], _ => rw [h] at h1; simp at h1
   | [a], _ => rfl
  rw [e1]
  exact put_ok _
 have hrr : r = (q.rc k).length := by omega
 have htk : ((q.rc k).take r).length = (q.rc k).length := by rw [List.length_take]; omega
 have htr : (q.rc k).take r = q.rc k := by rw [hrr]; exact List.take_length
 refine ⟨⟨0, by omega, rfl, rfl⟩, fun c hc => ⟨fun h2 => ?_, fun h2 => ⟨k + 1, by omega, by omega, hw _ (by omega)⟩⟩⟩
 have hrow := ok.row c (by omega)
 have hoff := off_lt (o := q.ins k) (z := c) (by omega)
 refine ⟨by omega, h2, by omega, by omega, by rw [hrow]; simp, by omega, by omega, ⟨0, by omega, rfl, rfl⟩, fun i hi => ⟨fun h3 => ?_, fun h3 => ⟨c + 1, by omega, by omega, hw _ (by omega), ?_⟩⟩⟩
 ·refine ⟨by omega, h3, by omega, by omega, by omega, by omega, ?_⟩
  repeat (first | refine And.intro (fun h => h) ?_ | refine And.intro (fun _ => by omega) ?_)
  refine ⟨ok.mvd c i (by omega) (by omega), ⟨0, by omega, rfl, (ok.th0 c i).symm⟩, fun v hv => ⟨fun h4 => ?_, fun h4 => ?_⟩⟩
  ·refine ⟨by omega, h4, ?_⟩
   repeat (first | refine And.intro (fun h => h) ?_)
   rw [htr]
   exact ⟨ok.th1 c i v (by omega), v + 1, by omega, by omega, hw _ (by omega), rfl⟩
  ·repeat (first | refine And.intro (fun h => h) ?_)
   have hv2 : v = (q.rc k).length := by omega
   refine ⟨by rw [hv2]; exact ok.fin c i (by omega) (by omega), ?_⟩
   repeat (first | refine And.intro (fun h => h) ?_ | refine And.intro (fun _ => by omega) ?_ | refine And.intro (fun _ => by rw [ok.on c i (by omega) (by omega)]; simp) ?_)
   exact ⟨i + 1, by omega, by omega, hw _ (by omega), hw (off (q.ins k) c + i) (by omega)⟩
 ·have : i = ((q.ins k).getD c []).length := by omega
  subst this
  rfl
end Go.Proofs.YtekhlnihpfkkkaaGreatDoor
