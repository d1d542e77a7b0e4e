/-
  LanguageAnswers: whatever the input, the call returns true, and each argument reads afterwards as it read before. No conditions. (Part 3 of 8 of its proof.)
-/
import Derived.Test.YtjnjmnfacaakfaaCA2
import Derived.Test.YtjnjmnfacaakfaaRows
namespace Go.Proofs.Ytjnjmnfacaakfaa
open Go.Eng
theorem ext_getD {α : Type} {a b : List α} (d : α) (h : a.length = b.length) (hh : ∀ i, i < a.length → a.getD i d = b.getD i d) : a = b := by
 apply List.ext_getElem h
 intro i h1 h2
 have := hh i h1
 simpa [List.getD, List.getElem?_eq_getElem h1, List.getElem?_eq_getElem h2] using this
def wordTab : List UInt8 := [97, 98, 99, 97, 98, 99, 48, 49, 102, 45, 97, 48]
def wordC (n : Int) : UInt8 := wordTab.getD (n % 12).toNat 0
def word (l : List Int) : List UInt8 := (l.take 8).map wordC
theorem word_next {l : List Int} {i : Nat} (h : i < l.length) : (l.take i).map wordC ++ (wordTab.drop (l.getD i 0 % 12).toNat).take ((l.getD i 0 % 12 + 1).toNat - (l.getD i 0 % 12).toNat) = (l.take (i + 1)).map wordC := by
 have h1 := Int.emod_nonneg (l.getD i 0) (show (12 : Int) ≠ 0 by decide)
 have h2 := Int.emod_lt_of_pos (l.getD i 0) (show (0 : Int) < 12 by decide)
 have e : (l.getD i 0 % 12 + 1).toNat - (l.getD i 0 % 12).toNat = 1 := by omega
 have hl : (l.getD i 0 % 12).toNat < wordTab.length := by show _ < 12; omega
 rw [e, drop_get (d := 0) hl, List.take_succ_cons, List.take_zero, List.take_succ_eq_append_getElem h, List.map_append]
 simp [wordC, List.getD, List.getElem?_eq_getElem h]
theorem word_end {l : List Int} {i : Nat} (h : ¬ ((i : Int) < (l.length : Int) ∧ (i : Int) < 8)) (h1 : i ≤ l.length) (h2 : i ≤ 8) : (l.take i).map wordC = word l := by
 unfold word
 congr 1
 by_cases hi : i = 8
 ·rw [hi]
 ·rw [List.take_of_length_le (by omega), List.take_of_length_le (by omega)]
theorem sameTexts_ok (a : List (List UInt8)) (b : List (List UInt8)) (hb0 : a.length < 4611686018427387904) : Pure Try.prog 23 [(eL eS 1 []) a, (eL eS 1 []) b] (vbool (decide (a = b))) := by
 refine pure_of (fn := Try.f23) Try.func23 rfl rfl fun F_ W0_ => ?_
 refine tr_seq (q_t [0, 1] [.p ((eL eS 1 []) a), .p ((eL eS 1 []) b)] [] (tr_then (tr_seq (tr_seq (q_m [0, 1, 10] [.p ((eL eS 1 []) a), .p ((eL eS 1 []) b), vbool ((a.length : Int) != (b.length : Int))] (tr_then (q_c ((a.length : Int) != (b.length : Int)) ((a.length : Int) ≠ (b.length : Int)) (fun hc1 => ?_) (fun hc1 => ?_))))))))
 ·refine tr_seq (q_m [4] [vbool false] (tr_then (q_i (d := vbool false) 4 (vbool (decide (a = b))) ?_ ?_)))
  ·refine imp_eq (congrArg (fun x => D.p (eB x)) (a₁ := false) (a₂ := (decide (a = b))) ?_)
   exact (decide_eq_false (fun h => by rw [h] at hc1; omega)).symm
  exact q_z [vbool (decide (a = b))] (fun _ _ h => h)
 ·refine tr_skip (tr_then (tr_seq (tr_seq (q_m [0, 1, 5] [.p ((eL eS 1 []) a), .p ((eL eS 1 []) b), vint .i64 0] (tr_then (tr_block (tr_loop (α := Nat) (fun z : Nat => (fun (i : Nat) => [(0, none, .p ((eL eS 1 []) a)), (1, none, .p ((eL eS 1 []) b)), (5, none, vint .i64 (i : Int))]) z) (fun z : Nat => (fun (i : Nat) => []) z) (fun z : Nat => (fun (i : Nat) => (i ≤ a.length) ∧ (∀ j, j < i → a.getD j [] = b.getD j [])) z) (fun z : Nat => (fun (i : Nat) => a.length - i) z) 0 ?_ ?_ ?_)))))))
  ·show (0 ≤ a.length) ∧ (∀ j, j < 0 → a.getD j [] = b.getD j [])
   refine ⟨?_, ?_⟩
   ·omega
   ·omega
  ·intro A_ W_ hS
   replace hS := q_a (d := vint .i64 0) 5 (vint .i64 ((0 : Nat) : Int)) (eqD_int (by omega)) hS
   exact q_w [] [0, 1, 5] hS
  ·intro z hz
   revert z; intro i hz
   have hz : (i ≤ a.length) ∧ (∀ j, j < i → a.getD j [] = b.getD j []) := hz
   obtain ⟨hi0_0, hi0_1⟩ := hz
   refine tr_seq (tr_seq (q_t [0, 1, 5, 14] [.p ((eL eS 1 []) a), .p ((eL eS 1 []) b), vint .i64 (i : Int), vbool (decide ((i : Int) < (a.length : Int)))] [] (tr_then (q_e ((i : Int) < (a.length : Int)) (fun hc2 => ?_) (fun hc2 => ?_)))))
   ·refine tr_skip (tr_then (tr_seq (tr_block (tr_seq (q_d [(0 : Int) ≤ (i : Int), (i : Int) < (a.length : Int), (0 : Int) ≤ (i : Int), (i : Int) < (b.length : Int)] [0, 1, 5, 25] [.p ((eL eS 1 []) a), .p ((eL eS 1 []) b), vint .i64 (i : Int), vbool (!((a.getD i []) == (b.getD i [])))] [] [] (al (by omega) (al (by omega) (al (by omega) (al (by omega) (trivial))))) (tr_then (q_c (!((a.getD i []) == (b.getD i []))) (¬ (a.getD i []) = (b.getD i [])) (fun hc3 => ?_) (fun hc3 => ?_))))))))
    ·refine tr_seq (q_m [4] [vbool false] (tr_then (q_i (d := vbool false) 4 (vbool (decide (a = b))) ?_ ?_)))
     ·refine imp_eq (congrArg (fun x => D.p (eB x)) (a₁ := false) (a₂ := (decide (a = b))) ?_)
      exact (decide_eq_false (fun h => hc3 (by rw [h]))).symm
     exact q_z [vbool (decide (a = b))] (fun _ _ h => h)
    ·refine tr_skip (in_n (tr_then (q_k [(IntKind.wrap .i64 ((i : Int) + 1)) = (((i + 1) : Nat) : Int)] [0, 1, 5] [.p ((eL eS 1 []) a), .p ((eL eS 1 []) b), vint .i64 (((i + 1) : Nat) : Int)] [(1, vint .i64 (((i + 1) : Nat) : Int))] [] (al (wr64 (by omega) (by omega) (by omega)) (trivial)) (lp_end (i + 1) ?_ ?_ ?_))))
     ·show ((i + 1) ≤ a.length) ∧ (∀ j, j < (i + 1) → a.getD j [] = b.getD j [])
      refine ⟨?_, ?_⟩
      ·omega
      ·exact fun j hj => (by by_cases e : j = i; (subst e; simpa using hc3); exact hi0_1 j (by omega))
     ·show a.length - (i + 1) < a.length - i
      omega
     ·intro A_ W_ hS
      exact q_w [] [0, 1, 5] hS
   ·refine tr_exit (th_e (th_e (in_hit (tr_then (tr_seq (q_m [4] [vbool true] (tr_then (q_i (d := vbool true) 4 (vbool (decide (a = b))) ?_ ?_))))))))
    ·refine imp_eq (congrArg (fun x => D.p (eB x)) (a₁ := true) (a₂ := (decide (a = b))) ?_)
     exact (decide_eq_true (ext_getD [] (by omega) (fun j hj => hi0_1 j (by omega)))).symm
    exact q_z [vbool (decide (a = b))] (fun _ _ h => h)
theorem word_ok (l : List Int) (hb0 : l.length < 4611686018427387904) : Pure Try.prog 15 [(eL eI 1 0) l] (vstr (word l)) := by
 refine pure_of (fn := Try.f15) Try.func15 rfl rfl fun F_ W0_ => ?_
 refine tr_seq (q_t [0] [.p ((eL eI 1 0) l)] [] (tr_then (tr_seq (q_m [0, 3] [.p ((eL eI 1 0) l), vstr ([] : List UInt8)] (tr_then (tr_seq (tr_seq (q_m [0, 3, 4] [.p ((eL eI 1 0) l), vstr ([] : List UInt8), vint .i64 0] (tr_then (tr_block (tr_loop (α := Nat) (fun z : Nat => (fun (i : Nat) => [(0, none, .p ((eL eI 1 0) l)), (3, none, vstr ((l.take i).map wordC)), (4, none, vint .i64 (i : Int))]) z) (fun z : Nat => (fun (i : Nat) => []) z) (fun z : Nat => (fun (i : Nat) => (i ≤ l.length) ∧ (i ≤ 8)) z) (fun z : Nat => (fun (i : Nat) => l.length - i) z) 0 ?_ ?_ ?_)))))))))))
 ·show (0 ≤ l.length) ∧ (0 ≤ 8)
  refine ⟨?_, ?_⟩
  ·omega
  ·omega
 ·intro A_ W_ hS
  replace hS := q_a (d := vstr ([] : List UInt8)) 3 (vstr ((l.take 0).map wordC)) (eqD_str (by (simp; done))) hS
  replace hS := q_a (d := vint .i64 0) 4 (vint .i64 ((0 : Nat) : Int)) (eqD_int (by omega)) hS
  exact q_w [] [0, 3, 4] hS
 ·intro z hz
  revert z; intro i hz
  have hz : (i ≤ l.length) ∧ (i ≤ 8) := hz
  obtain ⟨hi0_0, hi0_1⟩ := hz
  have h1 := Int.emod_nonneg (l.getD i 0) (show (12 : Int) ≠ 0 by decide)
  have h2 := Int.emod_lt_of_pos (l.getD i 0) (show (0 : Int) < 12 by decide)
  refine tr_seq (tr_seq (q_s [(decide ((i : Int) < (l.length : Int))) = true → (decide ((i : Int) < (l.length : Int))) = true, (decide ((i : Int) < (l.length : Int))) = true → (decide ((i : Int) < (l.length : Int))) = true] [0, 3, 4, 13] [.p ((eL eI 1 0) l), vstr ((l.take i).map wordC), vint .i64 (i : Int), vbool ((decide ((i : Int) < (l.length : Int))) && (decide ((i : Int) < 8)))] [] (al id (al id (trivial))) (tr_then (q_c ((decide ((i : Int) < (l.length : Int))) && (decide ((i : Int) < 8))) (((i : Int) < (l.length : Int)) ∧ ((i : Int) < 8)) (fun hc1 => ?_) (fun hc1 => ?_)))))
  ·refine tr_skip (tr_then (tr_seq (tr_block (tr_seq (q_k [(0 : Int) ≤ (i : Int), (i : Int) < (l.length : Int), Pure Try.prog 19 [.v (.int .i64 (l.getD i 0)), .v (.int .i64 12)] (vint .i64 ((l.getD i 0) % 12))] [0, 3, 4, 5] [.p ((eL eI 1 0) l), vstr ((l.take i).map wordC), vint .i64 (i : Int), vint .i64 ((l.getD i 0) % 12)] [] [(4, vint .i64 ((l.getD i 0) % 12))] (al (by omega) (al (by omega) (al (mod_ok _ _ (by omega) (by omega)) (trivial)))) (tr_then (q_k [(IntKind.wrap .i64 (((l.getD i 0) % 12) + 1)) = (((l.getD i 0) % 12) + 1), (0 : Int) ≤ ((l.getD i 0) % 12), ((l.getD i 0) % 12) ≤ (((l.getD i 0) % 12) + 1), (((l.getD i 0) % 12) + 1) ≤ (([97, 98, 99, 97, 98, 99, 48, 49, 102, 45, 97, 48] : List UInt8).length : Int), ((((l.take i).map wordC).length + ((([97, 98, 99, 97, 98, 99, 48, 49, 102, 45, 97, 48] : List UInt8).drop (((l.getD i 0) % 12).toNat)).take (((((l.getD i 0) % 12) + 1).toNat) - (((l.getD i 0) % 12).toNat))).length : Nat) : Int) ≤ 9223372036854775807] [0, 3, 4] [.p ((eL eI 1 0) l), vstr (((l.take i).map wordC) ++ ((([97, 98, 99, 97, 98, 99, 48, 49, 102, 45, 97, 48] : List UInt8).drop (((l.getD i 0) % 12).toNat)).take (((((l.getD i 0) % 12) + 1).toNat) - (((l.getD i 0) % 12).toNat)))), vint .i64 (i : Int)] [(3, vint .i64 (((l.getD i 0) % 12) + 1))] [] (al (wr64 (by omega) (by omega) (by omega)) (al (by omega) (al (by omega) (al (by simp_all; omega) (al (by simp_all; omega) (trivial)))))) (in_n (tr_then (q_k [(IntKind.wrap .i64 ((i : Int) + 1)) = (((i + 1) : Nat) : Int)] [0, 3, 4] [.p ((eL eI 1 0) l), vstr (((l.take i).map wordC) ++ ((([97, 98, 99, 97, 98, 99, 48, 49, 102, 45, 97, 48] : List UInt8).drop (((l.getD i 0) % 12).toNat)).take (((((l.getD i 0) % 12) + 1).toNat) - (((l.getD i 0) % 12).toNat)))), vint .i64 (((i + 1) : Nat) : Int)] [(1, vint .i64 (((i + 1) : Nat) : Int))] [] (al (wr64 (by omega) (by omega) (by omega)) (trivial)) (lp_end (i + 1) ?_ ?_ ?_)))))))))))
   ·show ((i + 1) ≤ l.length) ∧ ((i + 1) ≤ 8)
    refine ⟨?_, ?_⟩
    ·omega
    ·omega
   ·show l.length - (i + 1) < l.length - i
    omega
   ·intro A_ W_ hS
    replace hS := q_a (d := vstr (((l.take i).map wordC) ++ ((([97, 98, 99, 97, 98, 99, 48, 49, 102, 45, 97, 48] : List UInt8).drop (((l.getD i 0) % 12).toNat)).take (((((l.getD i 0) % 12) + 1).toNat) - (((l.getD i 0) % 12).toNat))))) 3 (vstr ((l.take (i + 1)).map wordC)) (eqD_str (by exact word_next (by omega))) hS
    exact q_w [] [0, 3, 4] hS
  ·refine tr_exit (th_e (th_e (in_hit (tr_then (tr_seq (q_m [2] [vstr ((l.take i).map wordC)] (tr_then (q_i (d := vstr ((l.take i).map wordC)) 2 (vstr (word l)) ?_ ?_))))))))
   ·refine imp_eq (congrArg (fun x => D.p (eS x)) (a₁ := ((l.take i).map wordC)) (a₂ := (word l)) ?_)
    exact word_end hc1 hi0_0 hi0_1
   exact q_z [vstr (word l)] (fun _ _ h => h)
theorem cut_ok (l : List Int) : Pure Try.prog 10 [(eL eI 1 0) l] (.p ((eL eI 1 0) (l.take 24))) := by
 refine pure_of (fn := Try.f10) Try.func10 rfl rfl fun F_ W0_ => ?_
 refine tr_seq (q_t [0] [.p ((eL eI 1 0) l)] [] (tr_then (tr_seq (q_k [(min (l.length : Int) 24) = (((min l.length 24) : Nat) : Int), (0 : Int) ≤ 0, 0 ≤ (((min l.length 24) : Nat) : Int), (((min l.length 24) : Nat) : Int) ≤ (l.length : Int), ((min l.length 24) - 0) = (l.take (min l.length 24)).length ∧ ∀ j, j < ((min l.length 24) - 0) → eI (l.getD (0 + j) 0) = eI ((l.take (min l.length 24)).getD j 0)] [2] [.p ((eL eI 1 0) (l.take (min l.length 24)))] [(3, vint .i64 (((min l.length 24) : Nat) : Int)), (4, .p ((eL eI 1 0) (l.take (min l.length 24))))] [] (al (by omega) (al (by omega) (al (by omega) (al (by omega) (al (cut_take (by omega)) (trivial)))))) (tr_then (q_i (d := .p ((eL eI 1 0) (l.take (min l.length 24)))) 2 (.p ((eL eI 1 0) (l.take 24))) ?_ ?_))))))
 ·refine imp_eq (congrArg (fun x => D.p ((eL eI 1 0) x)) (a₁ := (l.take (min l.length 24))) (a₂ := (l.take 24)) ?_)
  first | rfl | (simp; done) | omega | (simp_all; done) | grind
 exact q_z [.p ((eL eI 1 0) (l.take 24))] (fun _ _ h => h)
end Go.Proofs.Ytjnjmnfacaakfaa
namespace Go.Proofs.Ytjnjmnfacaakfaa
open Go.Eng
structure Draw where
 L : (List Int) := []
 At : Int := 0
deriving DecidableEq
def eDraw (x : Draw) : PV := .agg [(eL eI 1 0) x.L, eI x.At]
def nextV (d : Draw) (n : Int) : Int := if d.At.toNat < d.L.length then d.L.getD d.At.toNat 0 % n else 0
def nextD (d : Draw) : Draw := if d.At.toNat < d.L.length then { d with At := d.At + 1 } else d
theorem next_ok (d : Draw) (n : Int) (h0 : 0 < n) (h1 : n < 4611686018427387904) (h2 : 0 ≤ d.At) (h3 : d.At < 4611686018427387904) (h4 : d.L.length < 4611686018427387904) : Mut Try.prog 30 (eDraw d) [.v (.int .i64 n)] (eDraw (nextD d)) (vint .i64 (nextV d n)) := by
 refine mut_of (fn := Try.f30) Try.func30 rfl rfl fun F_ W0_ b0_ => ?_
 refine tr_seq (q_t [0, 1] [.ref 0 [], vint .i64 n] [.box (.p (eDraw d))] (tr_then (tr_seq (tr_seq (q_d [] [0, 1, 14] [.ref 0 [], vint .i64 n, vbool (decide ((d.L.length : Int) ≤ d.At))] [] [] trivial (tr_then (q_e ((d.L.length : Int) ≤ d.At) (fun hc1 => ?_) (fun hc1 => ?_))))))))
 ·refine tr_seq (q_m [4] [vint .i64 0] (tr_then (tr_pre (E' := [(4, none, vint .i64 0)]) (H' := [.box (.p (eDraw d))]) (fun _ _ h => q_w [0] [4] h) (q_i (d := vint .i64 0) 4 (vint .i64 (nextV d n)) ?_ ?_))))
  ·refine imp_eq (congrArg (fun x => D.p (eI x)) (a₁ := 0) (a₂ := (nextV d n)) ?_)
   rw [nextV, if_neg (by omega)]
  refine tr_pre (fun _ _ => sl_obj_imp (d := .p (eDraw d)) 0 (.p (eDraw (nextD d))) (by kernel_rfl) ?_) ?_
  ·refine impC_eq ?_
   rw [nextD, if_neg (by omega)]
  exact tr_returnM (x1 := (eDraw (nextD d))) (vc := []) (ds := [vint .i64 (nextV d n)]) (by kernel_rfl) trivial (by kernel_rfl) (by kernel_rfl) (fun _ _ h => h)
 ·refine tr_skip (tr_then (tr_seq (q_r [(IntKind.wrap .i64 (d.At + 1)) = (d.At + 1)] [0, 1] [.ref 0 [], vint .i64 n] [.box (.p (.agg [(eL eI 1 0) d.L, .v (.int .i64 (d.At + 1))]))] [(4, vint .i64 (d.At + 1))] [] (al (wr64 (by omega) (by omega) (by omega)) (trivial)) (tr_then (tr_seq (q_d [(IntKind.wrap .i64 ((d.At + 1) - 1)) = ((d.At + 1) - 1), (0 : Int) ≤ ((d.At + 1) - 1), ((d.At + 1) - 1) < (d.L.length : Int), Pure Try.prog 19 [.v (.int .i64 (d.L.getD (((d.At + 1) - 1).toNat) 0)), .v (.int .i64 n)] (vint .i64 ((d.L.getD (((d.At + 1) - 1).toNat) 0) % n))] [4] [vint .i64 ((d.L.getD (((d.At + 1) - 1).toNat) 0) % n)] [(8, vint .i64 ((d.At + 1) - 1))] [(12, vint .i64 ((d.L.getD (((d.At + 1) - 1).toNat) 0) % n))] (al (wr64 (by omega) (by omega) (by omega)) (al (by omega) (al (by omega) (al (mod_ok _ _ (by omega) (by omega)) (trivial))))) (tr_then (tr_pre (E' := [(4, none, vint .i64 ((d.L.getD (((d.At + 1) - 1).toNat) 0) % n))]) (H' := [.box (.p (.agg [(eL eI 1 0) d.L, .v (.int .i64 (d.At + 1))]))]) (fun _ _ h => q_w [0] [4] h) (q_i (d := vint .i64 ((d.L.getD (((d.At + 1) - 1).toNat) 0) % n)) 4 (vint .i64 (nextV d n)) ?_ ?_)))))))))
  ·refine imp_eq (congrArg (fun x => D.p (eI x)) (a₁ := ((d.L.getD (((d.At + 1) - 1).toNat) 0) % n)) (a₂ := (nextV d n)) ?_)
   rw [nextV, if_pos (by omega), show d.At + 1 - 1 = d.At by omega]
  refine tr_pre (fun _ _ => sl_obj_imp (d := .p (.agg [(eL eI 1 0) d.L, .v (.int .i64 (d.At + 1))])) 0 (.p (eDraw (nextD d))) (by kernel_rfl) ?_) ?_
  ·refine impC_eq ?_
   rw [nextD, if_pos (by omega)]; rfl
  exact tr_returnM (x1 := (eDraw (nextD d))) (vc := []) (ds := [vint .i64 (nextV d n)]) (by kernel_rfl) trivial (by kernel_rfl) (by kernel_rfl) (fun _ _ h => h)
end Go.Proofs.Ytjnjmnfacaakfaa
namespace Go.Eng
theorem wrap_u64 {n : Nat} (h : n < 2 ^ 64) : IntKind.wrap .u64 (n : Int) = (n : Int) := by
 rw [IntKind.wrap_u64]; omega
theorem ofInt_toNat {n : Nat} (h : n < 2 ^ 64) : (BitVec.ofInt 64 (n : Int)).toNat = n := by
 rw [BitVec.toNat_ofInt]; omega
theorem or_u64 {a b : Nat} (ha : a < 2 ^ 64) (hb : b < 2 ^ 64) : bitsOf .or .u64 (a : Int) (b : Int) = ((a ||| b : Nat) : Int) := by
 show IntKind.wrap .u64 ((BitVec.ofInt 64 (a : Int) ||| BitVec.ofInt 64 (b : Int)).toNat : Int) = _
 rw [BitVec.toNat_or, ofInt_toNat ha, ofInt_toNat hb, wrap_u64 (Nat.or_lt_two_pow ha hb)]
theorem and_u64 {a b : Nat} (ha : a < 2 ^ 64) (hb : b < 2 ^ 64) : bitsOf .and .u64 (a : Int) (b : Int) = ((a &&& b : Nat) : Int) := by
 show IntKind.wrap .u64 ((BitVec.ofInt 64 (a : Int) &&& BitVec.ofInt 64 (b : Int)).toNat : Int) = _
 rw [BitVec.toNat_and, ofInt_toNat ha, ofInt_toNat hb, wrap_u64 (Nat.and_lt_two_pow _ hb)]
theorem shl_u64 {i : Nat} (h : i < 64) : IntKind.wrap .u64 (1 * 2 ^ min ((i : Int)).toNat (IntKind.bits .u64)) = ((2 ^ i : Nat) : Int) := by
 have e : min ((i : Int)).toNat (IntKind.bits .u64) = i := by show min i 64 = i; omega
 rw [e, Int.one_mul]
 have : (2 : Int) ^ i = ((2 ^ i : Nat) : Int) := by simp
 rw [this, wrap_u64 (Nat.pow_lt_pow_right (by omega) h)]
theorem shr_u64 {a i : Nat} (h : i < 64) : (a : Int).fdiv (2 ^ min ((i : Int)).toNat (IntKind.bits .u64)) = ((a >>> i : Nat) : Int) := by
 have e : min ((i : Int)).toNat (IntKind.bits .u64) = i := by show min i 64 = i; omega
 rw [e, Nat.shiftRight_eq_div_pow]
 have : (2 : Int) ^ i = ((2 ^ i : Nat) : Int) := by simp
 rw [this, Int.fdiv_eq_ediv_of_nonneg _ (Int.natCast_nonneg _)]
 rfl
def wordN (f : Nat → Bool) : Nat → Nat
 | 0 => 0
 | n + 1 => wordN f n + (if f n then 2 ^ n else 0)
theorem wordN_lt (f : Nat → Bool) : ∀ n, wordN f n < 2 ^ n
 | 0 => by simp [wordN]
 | n + 1 => by
  have := wordN_lt f n
  simp only [wordN, Nat.pow_succ]
  split <;> omega
theorem wordN_bit (f : Nat → Bool) (i : Nat) : ∀ n, (wordN f n).testBit i = (decide (i < n) && f i)
 | 0 => by simp [wordN]
 | n + 1 => by
  have ih := wordN_bit f i n
  have hl := wordN_lt f n
  simp only [wordN]
  by_cases h : f n = true
  ·rw [if_pos h, Nat.add_comm]
   rcases Nat.lt_trichotomy i n with hi | rfl | hi
   ·rw [Nat.testBit_two_pow_add_gt hi, ih]
    have : decide (i < n + 1) = decide (i < n) := by simp; omega
    rw [this]
   ·rw [Nat.testBit_two_pow_add_eq, ih]
    simp [h]
   ·have hlt : 2 ^ n + wordN f n < 2 ^ i := by
     have : 2 ^ (n + 1) ≤ 2 ^ i := Nat.pow_le_pow_right (by omega) (by omega)
     rw [Nat.pow_succ] at this
     omega
    rw [Nat.testBit_lt_two_pow hlt]
    have : decide (i < n + 1) = false := by simp; omega
    rw [this]; rfl
  ·rw [if_neg h, Nat.add_zero, ih]
   by_cases hi : i = n
   ·subst hi; simp [h]
   ·have : decide (i < n + 1) = decide (i < n) := by simp; omega
    rw [this]
theorem wordN_or (f : Nat → Bool) {i n : Nat} (h : i < n) : wordN f n ||| 2 ^ i = wordN (upd f i true) n := by
 apply Nat.eq_of_testBit_eq
 intro j
 rw [Nat.testBit_or, wordN_bit, wordN_bit, Nat.testBit_two_pow]
 unfold upd
 by_cases hj : j = i
 ·subst hj; simp [h]
 ·have : decide (i = j) = false := by simp; omega
  rw [this, if_neg hj, Bool.or_false]
theorem wordN_has (f : Nat → Bool) {i n : Nat} (h : i < n) : (wordN f n >>> i) &&& 1 = if f i then 1 else 0 := by
 have := wordN_bit f i n
 rw [Nat.and_one_is_mod, Nat.shiftRight_eq_div_pow]
 rw [Nat.testBit_eq_decide_div_mod_eq] at this
 have hm : wordN f n / 2 ^ i % 2 = 0 ∨ wordN f n / 2 ^ i % 2 = 1 := by omega
 cases hf : f i with
 | true =>
  rw [hf] at this
  simp [h] at this
  rw [this]; rfl
 | false =>
  rw [hf] at this
  simp at this
  rw [if_neg (by simp)]
  exact this
theorem wordN_inj {f g : Nat → Bool} {n : Nat} (h : wordN f n = wordN g n) : ∀ i, i < n → f i = g i := by
 intro i hi
 have h1 := wordN_bit f i n
 have h2 := wordN_bit g i n
 rw [h, h2] at h1
 simpa [hi] using h1.symm
theorem wordN_congr {f g : Nat → Bool} : ∀ {n : Nat}, (∀ i, i < n → f i = g i) → wordN f n = wordN g n
 | 0, _ => rfl
 | n + 1, h => by
  simp only [wordN]
  rw [wordN_congr (n := n) (fun i hi => h i (by omega)), h n (by omega)]
theorem quo_nat {n m : Nat} (h : n < 9223372036854775808) : IntKind.wrap .i64 ((n : Int).tdiv (m : Int)) = ((n / m : Nat) : Int) := by
 have h1 : (n : Int).tdiv (m : Int) = ((n / m : Nat) : Int) := rfl
 have h2 : n / m ≤ n := Nat.div_le_self n m
 rw [h1]
 generalize n / m = q at *
 exact wr64 (by omega) (by omega) rfl
theorem rem_nat {n m : Nat} : (n : Int).tmod (m : Int) = ((n % m : Nat) : Int) := rfl
def setW (S : Nat → Bool) : Nat → Int := fun k => ((wordN (fun i => S (64 * k + i)) 64 : Nat) : Int)
theorem has_bit (S : Nat → Bool) (n : Nat) : bitsOf .and .u64 ((wordN (fun i => S (64 * (n / 64) + i)) 64 >>> (n % 64) : Nat) : Int) 1 = ((if S n then 1 else 0 : Nat) : Int) := by
 have h0 := wordN_lt (fun i => S (64 * (n / 64) + i)) 64
 have h1 : wordN (fun i => S (64 * (n / 64) + i)) 64 >>> (n % 64) < 2 ^ 64 := by
  rw [Nat.shiftRight_eq_div_pow]
  exact Nat.lt_of_le_of_lt (Nat.div_le_self _ _) h0
 have := and_u64 (b := 1) h1 (by omega)
 rw [show ((1 : Nat) : Int) = 1 from rfl] at this
 rw [this, wordN_has _ (by omega)]
 have e : 64 * (n / 64) + n % 64 = n := Nat.div_add_mod n 64
 rw [e]
theorem add_bit (S : Nat → Bool) (n : Nat) : bitsOf .or .u64 (setW S (n / 64)) ((2 ^ (n % 64) : Nat) : Int) = setW (upd S n true) (n / 64) := by
 have h0 := wordN_lt (fun i => S (64 * (n / 64) + i)) 64
 have hm : n % 64 < 64 := Nat.mod_lt _ (by omega)
 unfold setW
 rw [or_u64 h0 (Nat.pow_lt_pow_right (by omega) hm), wordN_or _ hm]
 congr 1
 refine wordN_congr fun i hi => ?_
 have e : 64 * (n / 64) + n % 64 = n := Nat.div_add_mod n 64
 unfold upd
 by_cases h : i = n % 64
 ·subst h; rw [if_pos rfl, if_pos e]
 ·rw [if_neg h, if_neg (by omega)]
theorem add_set (S : Nat → Bool) (n : Nat) : upd (setW S) (n / 64) (setW (upd S n true) (n / 64)) = setW (upd S n true) := by
 funext k
 by_cases h : k = n / 64
 ·subst h; simp [upd]
 ·unfold upd
  rw [if_neg h]
  unfold setW
  congr 1
  refine wordN_congr fun i hi => ?_
  simp only
  rw [if_neg (by omega)]
end Go.Eng
namespace Go.Proofs.Ytjnjmnfacaakfaa
open Go.Eng
theorem setHas_ok (S : Nat → Bool) (n : Nat) (h0 : n < 128) : Pure Try.prog 34 [(eA (eK .u64) 1 2) (setW S), .v (.int .i64 (n : Int))] (vbool (S n)) := by
 refine pure_of (fn := Try.f34) Try.func34 rfl rfl fun F_ W0_ => ?_
 refine tr_seq (q_t [1, 2] [vint .i64 (n : Int), .ref 0 []] [.box (.p ((eA (eK .u64) 1 2) (setW S)))] (tr_then (tr_seq (q_k [(64 : Int) ≠ 0, (IntKind.wrap .i64 ((n : Int).tdiv 64)) = (((n / 64) : Nat) : Int), (0 : Int) ≤ (((n / 64) : Nat) : Int), (((n / 64) : Nat) : Int) < (2 : Int), (n / 64) < 2, (64 : Int) ≠ 0, ((n : Int).tmod 64) = (((n % 64) : Nat) : Int), (0 : Int) ≤ (((n % 64) : Nat) : Int), (((setW S) (n / 64)).fdiv (2 ^ min (((n % 64) : Nat) : Int).toNat (IntKind.bits .u64))) = ((wordN (fun i => S (64 * (n / 64) + i)) 64 >>> (n % 64) : Nat) : Int), (bitsOf .and .u64 ((wordN (fun i => S (64 * (n / 64) + i)) 64 >>> (n % 64) : Nat) : Int) 1) = ((if S n then 1 else 0 : Nat) : Int)] [4] [vbool (((if S n then 1 else 0 : Nat) : Int) == 1)] [(1, vint .i64 (((n / 64) : Nat) : Int)), (5, vint .i64 (((n % 64) : Nat) : Int)), (6, vint .u64 ((wordN (fun i => S (64 * (n / 64) + i)) 64 >>> (n % 64) : Nat) : Int)), (7, vint .u64 ((if S n then 1 else 0 : Nat) : Int))] [] (al (by omega) (al (quo_nat (n := n) (m := 64) (by omega)) (al (by omega) (al (by omega) (al (by omega) (al (by omega) (al (rem_nat (n := n) (m := 64)) (al (by omega) (al (shr_u64 (by omega)) (al (has_bit S n) (trivial))))))))))) (tr_then (tr_pre (E' := [(4, none, vbool (((if S n then 1 else 0 : Nat) : Int) == 1))]) (H' := []) (fun _ _ h => q_w [] [4] h) (q_i (d := vbool (((if S n then 1 else 0 : Nat) : Int) == 1)) 4 (vbool (S n)) ?_ ?_)))))))
 ·refine imp_eq (congrArg (fun x => D.p (eB x)) (a₁ := (((if S n then 1 else 0 : Nat) : Int) == 1)) (a₂ := (S n)) ?_)
  cases S n <;> rfl
 exact q_z [vbool (S n)] (fun _ _ h => h)
theorem setAdd_ok (S : Nat → Bool) (n : Nat) (h0 : n < 128) : Mut Try.prog 32 ((eA (eK .u64) 1 2) (setW S)) [.v (.int .i64 (n : Int))] ((eA (eK .u64) 1 2) (setW (upd S n true))) (.tup []) := by
 refine mut_of (fn := Try.f32) Try.func32 rfl rfl fun F_ W0_ b0_ => ?_
 refine tr_dt (vc := [(64 : Int) ≠ 0, (IntKind.wrap .i64 ((n : Int).tdiv 64)) = (((n / 64) : Nat) : Int), (0 : Int) ≤ (((n / 64) : Nat) : Int), (((n / 64) : Nat) : Int) < (2 : Int), (n / 64) < 2, (64 : Int) ≠ 0, ((n : Int).tmod 64) = (((n % 64) : Nat) : Int), (0 : Int) ≤ (((n % 64) : Nat) : Int), (IntKind.wrap .u64 ((1 : Int) * 2 ^ min (((n % 64) : Nat) : Int).toNat (IntKind.bits .u64))) = ((2 ^ (n % 64) : Nat) : Int), (bitsOf .or .u64 ((setW S) (n / 64)) ((2 ^ (n % 64) : Nat) : Int)) = (setW (upd S n true) (n / 64)), (0 : Int) ≤ (((n / 64) : Nat) : Int), (((n / 64) : Nat) : Int) < (2 : Int), (n / 64) < 2]) (E' := []) (H' := [.box (.p (.vec 1 2 (upd (fun i => (eK .u64) ((setW S) i)) (n / 64) (.v (.int .u64 (setW (upd S n true) (n / 64)))))))]) 12 [(2, vint .i64 (((n / 64) : Nat) : Int)), (7, vint .i64 (((n % 64) : Nat) : Int)), (8, vint .u64 ((2 ^ (n % 64) : Nat) : Int)), (9, vint .u64 (setW (upd S n true) (n / 64)))] [] [] (by kernel_rfl) (by kernel_rfl) (by kernel_rfl) (al (by omega) (al (quo_nat (n := n) (m := 64) (by omega)) (al (by omega) (al (by omega) (al (by omega) (al (by omega) (al (rem_nat (n := n) (m := 64)) (al (by omega) (al (shl_u64 (by omega)) (al (add_bit S n) (al (by omega) (al (by omega) (al (by omega) (trivial)))))))))))))) (nm_pre (fun _ _ => sl_obj (o := .box (.p (.vec 1 2 (upd (fun i => (eK .u64) ((setW S) i)) (n / 64) (.v (.int .u64 (setW (upd S n true) (n / 64)))))))) 0 (.box (.p ((eA (eK .u64) 1 2) (upd (setW S) (n / 64) (setW (upd S n true) (n / 64)))))) (by kernel_rfl) (by exact congrArg (fun y => O.box (D.p y)) (vec_upd (e := (eK .u64)) (f := (setW S)) (k := (n / 64)) (x := (setW (upd S n true) (n / 64)))))) (nm_pre (E' := []) (H' := [.box (.p ((eA (eK .u64) 1 2) (upd (setW S) (n / 64) (setW (upd S n true) (n / 64)))))]) (fun _ _ h => q_w [0] [] h) (nm_pre (fun _ _ => sl_obj_imp (d := .p ((eA (eK .u64) 1 2) (upd (setW S) (n / 64) (setW (upd S n true) (n / 64))))) 0 (.p ((eA (eK .u64) 1 2) (setW (upd S n true)))) (by kernel_rfl) ?_) ?_)))
 ·refine impC_eq ?_
  rw [add_set]
 exact nm_endM (x1 := ((eA (eK .u64) 1 2) (setW (upd S n true)))) (by kernel_rfl)
end Go.Proofs.Ytjnjmnfacaakfaa
namespace Go.Proofs.Ytjnjmnfacaakfaa
open Go.Eng
structure Place where
 fSet : Int := 0
 fMore : Int := 0
 fEnd : Bool := false
deriving DecidableEq
def dPlace : Place := {}
def ePlace (x : Place) : PV := .agg [(eK .u64) x.fSet, (eK .u8) x.fMore, eB x.fEnd]
def cl (ps : List Place) (S : Nat → Bool) : Nat → Nat → Bool
 | 0 => S
 | i + 1 => if cl ps S i i = true ∧ (ps.getD i dPlace).fMore ≠ 0 then upd (cl ps S i) (i + 1) true else cl ps S i
def closedS (ps : List Place) (S : Nat → Bool) : Nat → Bool := cl ps S ps.length
theorem closed_ok (ps : List Place) (S : Nat → Bool) (h0 : ps.length < 127) : Pure Try.prog 33 [(eL ePlace 3 dPlace) ps, (eA (eK .u64) 1 2) (setW S)] (.p ((eA (eK .u64) 1 2) (setW (closedS ps S)))) := by
 refine pure_of (fn := Try.f33) Try.func33 rfl rfl fun F_ W0_ => ?_
 refine tr_seq (q_t [0, 3, 4] [.p ((eL ePlace 3 dPlace) ps), .ref 0 [], .ref 1 []] [.box (.p ((eA (eK .u64) 1 2) (setW S))), .box (.p ((eA (eK .u64) 1 2) (fun _ => 0)))] (tr_then (tr_seq (tr_seq (q_m [3, 4, 7, 8, 9] [.ref 0 [], .ref 1 [], .p ((eL ePlace 3 dPlace) ps), vint .i64 (ps.length : Int), vint .i64 0] (tr_then (tr_block (tr_loop (α := Nat) (fun z : Nat => (fun (i : Nat) => [(3, none, .ref 0 []), (4, none, .ref 1 []), (7, none, .p ((eL ePlace 3 dPlace) ps)), (8, none, vint .i64 (ps.length : Int)), (9, none, vint .i64 (i : Int))]) z) (fun z : Nat => (fun (i : Nat) => [.box (.p ((eA (eK .u64) 1 2) (setW (cl ps S i)))), .box (.p ((eA (eK .u64) 1 2) (fun _ => 0)))]) z) (fun z : Nat => (fun (i : Nat) => (i ≤ ps.length)) z) (fun z : Nat => (fun (i : Nat) => ps.length - i) z) 0 ?_ ?_ ?_))))))))
 ·show (0 ≤ ps.length)
  ·omega
 ·intro A_ W_ hS
  replace hS := q_a (d := vint .i64 0) 9 (vint .i64 ((0 : Nat) : Int)) (eqD_int (by omega)) hS
  replace hS := sl_obj_imp (d := .p ((eA (eK .u64) 1 2) (setW S))) 0 (.p ((eA (eK .u64) 1 2) (setW (cl ps S 0)))) (by kernel_rfl) (impC_eq (congrArg (fun x => D.p ((eA (eK .u64) 1 2) x)) (a₁ := (setW S)) (a₂ := (setW (cl ps S 0))) (by rfl))) hS
  exact q_w [0, 1] [3, 4, 7, 8, 9] hS
 ·intro z hz
  revert z; intro i hz
  have hz : (i ≤ ps.length) := hz
  have hi0_0 := hz
  refine tr_seq (q_t [3, 4, 7, 8, 9, 10] [.ref 0 [], .ref 1 [], .p ((eL ePlace 3 dPlace) ps), vint .i64 (ps.length : Int), vint .i64 (i : Int), vbool (decide ((i : Int) < (ps.length : Int)))] [.box (.p ((eA (eK .u64) 1 2) (setW (cl ps S i)))), .box (.p ((eA (eK .u64) 1 2) (fun _ => 0)))] (tr_then (tr_seq (q_e ((i : Int) < (ps.length : Int)) (fun hc1 => ?_) (fun hc1 => ?_)))))
  ·refine tr_skip (tr_then (tr_seq (tr_block (tr_seq (q_s [(0 : Int) ≤ (i : Int), (i : Int) < (ps.length : Int)] [3, 4, 5, 6, 7, 8, 9] [.ref 0 [], .ref 1 [], vint .i64 (i : Int), .ref 2 [], .p ((eL ePlace 3 dPlace) ps), vint .i64 (ps.length : Int), vint .i64 (i : Int)] [.box (.p ((eA (eK .u64) 1 2) (setW (cl ps S i)))), .box (.p ((eA (eK .u64) 1 2) (fun _ => 0))), .box (.p (ePlace (ps.getD i dPlace)))] (al (by omega) (al (by omega) (trivial))) (tr_then (tr_seq (q_k [Pure Try.prog 34 [(eA (eK .u64) 1 2) (setW (cl ps S i)), .v (.int .i64 (i : Int))] (vbool ((cl ps S i) i)), ((cl ps S i) i) = true → ((cl ps S i) i) = true, ((cl ps S i) i) = true → ((cl ps S i) i) = true, ((cl ps S i) i) = true → ((cl ps S i) i) = true] [3, 4, 5, 7, 8, 9, 21] [.ref 0 [], .ref 1 [], vint .i64 (i : Int), .p ((eL ePlace 3 dPlace) ps), vint .i64 (ps.length : Int), vint .i64 (i : Int), vbool (((cl ps S i) i) && (((ps.getD i dPlace).fMore) != 0))] [] [(2, vbool ((cl ps S i) i))] (al (setHas_ok _ _ (by omega)) (al id (al id (al id (trivial))))) (tr_then (q_c (((cl ps S i) i) && (((ps.getD i dPlace).fMore) != 0)) ((((cl ps S i) i) = true) ∧ (((ps.getD i dPlace).fMore) ≠ 0)) (fun hc2 => ?_) (fun hc2 => ?_)))))))))))
   ·refine q_r [(IntKind.wrap .i64 ((i : Int) + 1)) = (((i + 1) : Nat) : Int), Mut Try.prog 32 ((eA (eK .u64) 1 2) (setW (cl ps S i))) [.v (.int .i64 (((i + 1) : Nat) : Int))] ((eA (eK .u64) 1 2) (setW (upd (cl ps S i) (i + 1) true))) (.tup [])] [3, 4, 7, 8, 9] [.ref 0 [], .ref 1 [], .p ((eL ePlace 3 dPlace) ps), vint .i64 (ps.length : Int), vint .i64 (i : Int)] [.box (.p ((eA (eK .u64) 1 2) (setW (upd (cl ps S i) (i + 1) true)))), .box (.p ((eA (eK .u64) 1 2) (fun _ => 0))), .box (.p (ePlace (ps.getD i dPlace)))] [(1, vint .i64 (((i + 1) : Nat) : Int))] [(2, .tup [.p ((eA (eK .u64) 1 2) (setW (upd (cl ps S i) (i + 1) true))), .tup []])] (al (wr64 (by omega) (by omega) (by omega)) (al (setAdd_ok _ _ (by omega)) (trivial))) (in_n (tr_then (q_k [(IntKind.wrap .i64 ((i : Int) + 1)) = (((i + 1) : Nat) : Int)] [3, 4, 7, 8, 9] [.ref 0 [], .ref 1 [], .p ((eL ePlace 3 dPlace) ps), vint .i64 (ps.length : Int), vint .i64 (((i + 1) : Nat) : Int)] [(0, vint .i64 (((i + 1) : Nat) : Int))] [] (al (wr64 (by omega) (by omega) (by omega)) (trivial)) (lp_end (i + 1) ?_ ?_ ?_))))
    ·show ((i + 1) ≤ ps.length)
     ·omega
    ·show ps.length - (i + 1) < ps.length - i
     omega
    ·intro A_ W_ hS
     replace hS := sl_obj_imp (d := .p ((eA (eK .u64) 1 2) (setW (upd (cl ps S i) (i + 1) true)))) 0 (.p ((eA (eK .u64) 1 2) (setW (cl ps S (i + 1))))) (by kernel_rfl) (impC_eq (congrArg (fun x => D.p ((eA (eK .u64) 1 2) x)) (a₁ := (setW (upd (cl ps S i) (i + 1) true))) (a₂ := (setW (cl ps S (i + 1)))) (by first | (rw [cl, if_pos hc2]) | (rw [cl, if_neg hc2])))) hS
     exact q_w [0, 1] [3, 4, 7, 8, 9] hS
   ·refine tr_skip (in_n (tr_then (q_k [(IntKind.wrap .i64 ((i : Int) + 1)) = (((i + 1) : Nat) : Int)] [3, 4, 7, 8, 9] [.ref 0 [], .ref 1 [], .p ((eL ePlace 3 dPlace) ps), vint .i64 (ps.length : Int), vint .i64 (((i + 1) : Nat) : Int)] [(0, vint .i64 (((i + 1) : Nat) : Int))] [] (al (wr64 (by omega) (by omega) (by omega)) (trivial)) (lp_end (i + 1) ?_ ?_ ?_))))
    ·show ((i + 1) ≤ ps.length)
     ·omega
    ·show ps.length - (i + 1) < ps.length - i
     omega
    ·intro A_ W_ hS
     replace hS := sl_obj_imp (d := .p ((eA (eK .u64) 1 2) (setW (cl ps S i)))) 0 (.p ((eA (eK .u64) 1 2) (setW (cl ps S (i + 1))))) (by kernel_rfl) (impC_eq (congrArg (fun x => D.p ((eA (eK .u64) 1 2) x)) (a₁ := (setW (cl ps S i))) (a₂ := (setW (cl ps S (i + 1)))) (by first | (rw [cl, if_pos hc2]) | (rw [cl, if_neg hc2])))) hS
     exact q_w [0, 1] [3, 4, 7, 8, 9] hS
  ·refine tr_exit (th_e (th_e (in_hit (tr_then (tr_seq (q_t [4] [.ref 1 []] [.box (.p ((eA (eK .u64) 1 2) (setW (cl ps S i)))), .box (.p ((eA (eK .u64) 1 2) (setW (cl ps S i))))] (tr_then (tr_pre (E' := [(4, none, .ref 0 [])]) (H' := [.box (.p ((eA (eK .u64) 1 2) (setW (cl ps S i))))]) (fun _ _ h => q_w [1] [4] h) (tr_pre (fun _ _ => sl_obj_imp (d := .p ((eA (eK .u64) 1 2) (setW (cl ps S i)))) 0 (.p ((eA (eK .u64) 1 2) (setW (closedS ps S)))) (by kernel_rfl) ?_) ?_)))))))))
   ·refine impC_eq (congrArg (fun x => D.p ((eA (eK .u64) 1 2) x)) (a₁ := (setW (cl ps S i))) (a₂ := (setW (closedS ps S))) ?_)
    rw [closedS, show i = ps.length by omega]
   exact q_z [.p ((eA (eK .u64) 1 2) (setW (closedS ps S)))] (fun _ _ h => h)
def bitOf (x c : Int) : Bool := !(bitsOf .and .u64 (x.fdiv (2 ^ min c.toNat (IntKind.bits .u64))) 1 == 0)
def sp (ps : List Place) (S : Nat → Bool) (c : Int) : Nat → Nat → Bool
 | 0 => fun _ => false
 | i + 1 => if S i = true ∧ bitOf (ps.getD i dPlace).fSet c = true then (if (ps.getD i dPlace).fMore = 42 then upd (sp ps S c i) i true else upd (sp ps S c i) (i + 1) true) else sp ps S c i
def stepS (ps : List Place) (S : Nat → Bool) (c : Int) : Nat → Bool := closedS ps (sp ps S c ps.length)
theorem skip_of {b : Bool} {x c : Int} (h : b = false ∨ bitsOf .and .u64 (x.fdiv (2 ^ min c.toNat (IntKind.bits .u64))) 1 = 0) : ¬ (b = true ∧ bitOf x c = true) := by
 rintro ⟨h1, h2⟩
 rcases h with h | h
 ·rw [h] at h1; cases h1
 ·unfold bitOf at h2; rw [h] at h2; simp at h2
theorem go_of {b : Bool} {x c : Int} (h : ¬ (b = false ∨ bitsOf .and .u64 (x.fdiv (2 ^ min c.toNat (IntKind.bits .u64))) 1 = 0)) : b = true ∧ bitOf x c = true := by
 rw [not_or] at h
 refine ⟨by cases b <;> simp_all, ?_⟩
 unfold bitOf
 simp [h.2]
theorem setW_empty : (fun _ => (0 : Int)) = setW (fun _ => false) := by
 funext k
 rfl
theorem step_ok (ps : List Place) (S : Nat → Bool) (c : Int) (h0 : ps.length < 127) (h1 : 0 ≤ c) : Pure Try.prog 35 [(eL ePlace 3 dPlace) ps, (eA (eK .u64) 1 2) (setW S), .v (.int .i64 c)] (.p ((eA (eK .u64) 1 2) (setW (stepS ps S c)))) := by
 refine pure_of (fn := Try.f35) Try.func35 rfl rfl fun F_ W0_ => ?_
 refine tr_seq (q_t [0, 2, 4, 6] [.p ((eL ePlace 3 dPlace) ps), vint .i64 c, .ref 0 [], .ref 1 []] [.box (.p ((eA (eK .u64) 1 2) (setW S))), .box (.p ((eA (eK .u64) 1 2) (fun _ => 0)))] (tr_then (tr_seq (q_t [0, 2, 4, 6, 7] [.p ((eL ePlace 3 dPlace) ps), vint .i64 c, .ref 0 [], .ref 1 [], .ref 2 []] [.box (.p ((eA (eK .u64) 1 2) (setW S))), .box (.p ((eA (eK .u64) 1 2) (fun _ => 0))), .box (.p ((eA (eK .u64) 1 2) (fun _ => 0)))] (tr_then (tr_seq (tr_seq (q_m [0, 2, 4, 6, 7, 10, 11, 12] [.p ((eL ePlace 3 dPlace) ps), vint .i64 c, .ref 0 [], .ref 1 [], .ref 2 [], .p ((eL ePlace 3 dPlace) ps), vint .i64 (ps.length : Int), vint .i64 0] (tr_then (tr_block (tr_loop (α := Nat) (fun z : Nat => (fun (i : Nat) => [(0, none, .p ((eL ePlace 3 dPlace) ps)), (2, none, vint .i64 c), (4, none, .ref 0 []), (6, none, .ref 1 []), (7, none, .ref 2 []), (10, none, .p ((eL ePlace 3 dPlace) ps)), (11, none, vint .i64 (ps.length : Int)), (12, none, vint .i64 (i : Int))]) z) (fun z : Nat => (fun (i : Nat) => [.box (.p ((eA (eK .u64) 1 2) (setW S))), .box (.p ((eA (eK .u64) 1 2) (fun _ => 0))), .box (.p ((eA (eK .u64) 1 2) (setW (sp ps S c i))))]) z) (fun z : Nat => (fun (i : Nat) => (i ≤ ps.length)) z) (fun z : Nat => (fun (i : Nat) => ps.length - i) z) 0 ?_ ?_ ?_)))))))))))
 ·show (0 ≤ ps.length)
  ·omega
 ·intro A_ W_ hS
  replace hS := q_a (d := vint .i64 0) 12 (vint .i64 ((0 : Nat) : Int)) (eqD_int (by omega)) hS
  replace hS := sl_obj_imp (d := .p ((eA (eK .u64) 1 2) (fun _ => 0))) 2 (.p ((eA (eK .u64) 1 2) (setW (sp ps S c 0)))) (by kernel_rfl) (impC_eq (congrArg (fun x => D.p ((eA (eK .u64) 1 2) x)) (a₁ := (fun _ => 0)) (a₂ := (setW (sp ps S c 0))) (by exact setW_empty))) hS
  exact q_w [0, 1, 2] [0, 2, 4, 6, 7, 10, 11, 12] hS
 ·intro z hz
  revert z; intro i hz
  have hz : (i ≤ ps.length) := hz
  have hi0_0 := hz
  refine tr_seq (q_t [0, 2, 4, 6, 7, 10, 11, 12, 13] [.p ((eL ePlace 3 dPlace) ps), vint .i64 c, .ref 0 [], .ref 1 [], .ref 2 [], .p ((eL ePlace 3 dPlace) ps), vint .i64 (ps.length : Int), vint .i64 (i : Int), vbool (decide ((i : Int) < (ps.length : Int)))] [.box (.p ((eA (eK .u64) 1 2) (setW S))), .box (.p ((eA (eK .u64) 1 2) (fun _ => 0))), .box (.p ((eA (eK .u64) 1 2) (setW (sp ps S c i))))] (tr_then (tr_seq (q_e ((i : Int) < (ps.length : Int)) (fun hc1 => ?_) (fun hc1 => ?_)))))
  ·refine tr_skip (tr_then (tr_seq (tr_block (tr_seq (q_s [(0 : Int) ≤ (i : Int), (i : Int) < (ps.length : Int)] [0, 2, 4, 6, 7, 8, 9, 10, 11, 12] [.p ((eL ePlace 3 dPlace) ps), vint .i64 c, .ref 0 [], .ref 1 [], .ref 2 [], vint .i64 (i : Int), .ref 3 [], .p ((eL ePlace 3 dPlace) ps), vint .i64 (ps.length : Int), vint .i64 (i : Int)] [.box (.p ((eA (eK .u64) 1 2) (setW S))), .box (.p ((eA (eK .u64) 1 2) (fun _ => 0))), .box (.p ((eA (eK .u64) 1 2) (setW (sp ps S c i)))), .box (.p (ePlace (ps.getD i dPlace)))] (al (by omega) (al (by omega) (trivial))) (tr_then (tr_seq (tr_seq (q_k [Pure Try.prog 34 [(eA (eK .u64) 1 2) (setW S), .v (.int .i64 (i : Int))] (vbool (S i)), (!(!(S i))) = true → (!(!(S i))) = true, (!(!(S i))) = true → (!(!(S i))) = true, (!(!(S i))) = true → (!(!(S i))) = true, (!(!(S i))) = true → ((0 : Int) ≤ c), (!(!(S i))) = true → (!(!(S i))) = true, (!(!(S i))) = true → (!(!(S i))) = true, (!(!(S i))) = true → (!(!(S i))) = true] [0, 2, 4, 6, 7, 8, 9, 10, 11, 12, 28] [.p ((eL ePlace 3 dPlace) ps), vint .i64 c, .ref 0 [], .ref 1 [], .ref 2 [], vint .i64 (i : Int), .ref 3 [], .p ((eL ePlace 3 dPlace) ps), vint .i64 (ps.length : Int), vint .i64 (i : Int), vbool ((!(S i)) || ((bitsOf .and .u64 (((ps.getD i dPlace).fSet).fdiv (2 ^ min c.toNat (IntKind.bits .u64))) 1) == 0))] [] [(2, vbool (S i))] (al (setHas_ok _ _ (by omega)) (al id (al id (al id (al (by omega) (al id (al id (al id (trivial))))))))) (tr_then (q_c ((!(S i)) || ((bitsOf .and .u64 (((ps.getD i dPlace).fSet).fdiv (2 ^ min c.toNat (IntKind.bits .u64))) 1) == 0)) (((S i) = false) ∨ ((bitsOf .and .u64 (((ps.getD i dPlace).fSet).fdiv (2 ^ min c.toNat (IntKind.bits .u64))) 1) = 0)) (fun hc2 => ?_) (fun hc2 => ?_))))))))))))
   ·refine tr_exit (th_e (in_hit (tr_then (q_k [(IntKind.wrap .i64 ((i : Int) + 1)) = (((i + 1) : Nat) : Int)] [0, 2, 4, 6, 7, 10, 11, 12] [.p ((eL ePlace 3 dPlace) ps), vint .i64 c, .ref 0 [], .ref 1 [], .ref 2 [], .p ((eL ePlace 3 dPlace) ps), vint .i64 (ps.length : Int), vint .i64 (((i + 1) : Nat) : Int)] [(0, vint .i64 (((i + 1) : Nat) : Int))] [] (al (wr64 (by omega) (by omega) (by omega)) (trivial)) (lp_end (i + 1) ?_ ?_ ?_)))))
    ·show ((i + 1) ≤ ps.length)
     ·omega
    ·show ps.length - (i + 1) < ps.length - i
     omega
    ·intro A_ W_ hS
     replace hS := sl_obj_imp (d := .p ((eA (eK .u64) 1 2) (setW (sp ps S c i)))) 2 (.p ((eA (eK .u64) 1 2) (setW (sp ps S c (i + 1))))) (by kernel_rfl) (impC_eq (congrArg (fun x => D.p ((eA (eK .u64) 1 2) x)) (a₁ := (setW (sp ps S c i))) (a₂ := (setW (sp ps S c (i + 1)))) (by first | (rw [sp, if_neg (skip_of hc2)]) | (rw [sp, if_pos (go_of hc2), if_pos hc3]) | (rw [sp, if_pos (go_of hc2), if_neg hc3])))) hS
     exact q_w [0, 1, 2] [0, 2, 4, 6, 7, 10, 11, 12] hS
   ·refine tr_skip (tr_then (tr_seq (q_m [0, 2, 4, 6, 7, 8, 10, 11, 12, 31] [.p ((eL ePlace 3 dPlace) ps), vint .i64 c, .ref 0 [], .ref 1 [], .ref 2 [], vint .i64 (i : Int), .p ((eL ePlace 3 dPlace) ps), vint .i64 (ps.length : Int), vint .i64 (i : Int), vbool (((ps.getD i dPlace).fMore) == 42)] (tr_then (q_c (((ps.getD i dPlace).fMore) == 42) (((ps.getD i dPlace).fMore) = 42) (fun hc3 => ?_) (fun hc3 => ?_))))))
    ·refine q_r [Mut Try.prog 32 ((eA (eK .u64) 1 2) (setW (sp ps S c i))) [.v (.int .i64 (i : Int))] ((eA (eK .u64) 1 2) (setW (upd (sp ps S c i) i true))) (.tup [])] [0, 2, 4, 6, 7, 10, 11, 12] [.p ((eL ePlace 3 dPlace) ps), vint .i64 c, .ref 0 [], .ref 1 [], .ref 2 [], .p ((eL ePlace 3 dPlace) ps), vint .i64 (ps.length : Int), vint .i64 (i : Int)] [.box (.p ((eA (eK .u64) 1 2) (setW S))), .box (.p ((eA (eK .u64) 1 2) (fun _ => 0))), .box (.p ((eA (eK .u64) 1 2) (setW (upd (sp ps S c i) i true)))), .box (.p (ePlace (ps.getD i dPlace)))] [] [(1, .tup [.p ((eA (eK .u64) 1 2) (setW (upd (sp ps S c i) i true))), .tup []])] (al (setAdd_ok _ _ (by omega)) (trivial)) (in_n (tr_then (q_k [(IntKind.wrap .i64 ((i : Int) + 1)) = (((i + 1) : Nat) : Int)] [0, 2, 4, 6, 7, 10, 11, 12] [.p ((eL ePlace 3 dPlace) ps), vint .i64 c, .ref 0 [], .ref 1 [], .ref 2 [], .p ((eL ePlace 3 dPlace) ps), vint .i64 (ps.length : Int), vint .i64 (((i + 1) : Nat) : Int)] [(0, vint .i64 (((i + 1) : Nat) : Int))] [] (al (wr64 (by omega) (by omega) (by omega)) (trivial)) (lp_end (i + 1) ?_ ?_ ?_))))
     ·show ((i + 1) ≤ ps.length)
      ·omega
     ·show ps.length - (i + 1) < ps.length - i
      omega
     ·intro A_ W_ hS
      replace hS := sl_obj_imp (d := .p ((eA (eK .u64) 1 2) (setW (upd (sp ps S c i) i true)))) 2 (.p ((eA (eK .u64) 1 2) (setW (sp ps S c (i + 1))))) (by kernel_rfl) (impC_eq (congrArg (fun x => D.p ((eA (eK .u64) 1 2) x)) (a₁ := (setW (upd (sp ps S c i) i true))) (a₂ := (setW (sp ps S c (i + 1)))) (by first | (rw [sp, if_neg (skip_of hc2)]) | (rw [sp, if_pos (go_of hc2), if_pos hc3]) | (rw [sp, if_pos (go_of hc2), if_neg hc3])))) hS
      exact q_w [0, 1, 2] [0, 2, 4, 6, 7, 10, 11, 12] hS
    ·refine q_r [(IntKind.wrap .i64 ((i : Int) + 1)) = (((i + 1) : Nat) : Int), Mut Try.prog 32 ((eA (eK .u64) 1 2) (setW (sp ps S c i))) [.v (.int .i64 (((i + 1) : Nat) : Int))] ((eA (eK .u64) 1 2) (setW (upd (sp ps S c i) (i + 1) true))) (.tup [])] [0, 2, 4, 6, 7, 10, 11, 12] [.p ((eL ePlace 3 dPlace) ps), vint .i64 c, .ref 0 [], .ref 1 [], .ref 2 [], .p ((eL ePlace 3 dPlace) ps), vint .i64 (ps.length : Int), vint .i64 (i : Int)] [.box (.p ((eA (eK .u64) 1 2) (setW S))), .box (.p ((eA (eK .u64) 1 2) (fun _ => 0))), .box (.p ((eA (eK .u64) 1 2) (setW (upd (sp ps S c i) (i + 1) true)))), .box (.p (ePlace (ps.getD i dPlace)))] [(1, vint .i64 (((i + 1) : Nat) : Int))] [(2, .tup [.p ((eA (eK .u64) 1 2) (setW (upd (sp ps S c i) (i + 1) true))), .tup []])] (al (wr64 (by omega) (by omega) (by omega)) (al (setAdd_ok _ _ (by omega)) (trivial))) (in_n (tr_then (q_k [(IntKind.wrap .i64 ((i : Int) + 1)) = (((i + 1) : Nat) : Int)] [0, 2, 4, 6, 7, 10, 11, 12] [.p ((eL ePlace 3 dPlace) ps), vint .i64 c, .ref 0 [], .ref 1 [], .ref 2 [], .p ((eL ePlace 3 dPlace) ps), vint .i64 (ps.length : Int), vint .i64 (((i + 1) : Nat) : Int)] [(0, vint .i64 (((i + 1) : Nat) : Int))] [] (al (wr64 (by omega) (by omega) (by omega)) (trivial)) (lp_end (i + 1) ?_ ?_ ?_))))
     ·show ((i + 1) ≤ ps.length)
      ·omega
     ·show ps.length - (i + 1) < ps.length - i
      omega
     ·intro A_ W_ hS
      replace hS := sl_obj_imp (d := .p ((eA (eK .u64) 1 2) (setW (upd (sp ps S c i) (i + 1) true)))) 2 (.p ((eA (eK .u64) 1 2) (setW (sp ps S c (i + 1))))) (by kernel_rfl) (impC_eq (congrArg (fun x => D.p ((eA (eK .u64) 1 2) x)) (a₁ := (setW (upd (sp ps S c i) (i + 1) true))) (a₂ := (setW (sp ps S c (i + 1)))) (by first | (rw [sp, if_neg (skip_of hc2)]) | (rw [sp, if_pos (go_of hc2), if_pos hc3]) | (rw [sp, if_pos (go_of hc2), if_neg hc3])))) hS
      exact q_w [0, 1, 2] [0, 2, 4, 6, 7, 10, 11, 12] hS
  ·refine tr_exit (th_e (th_e (in_hit (tr_then (tr_seq (q_r [Pure Try.prog 33 [(eL ePlace 3 dPlace) ps, (eA (eK .u64) 1 2) (setW (sp ps S c i))] (.p ((eA (eK .u64) 1 2) (setW (closedS ps (sp ps S c i)))))] [6] [.ref 1 []] [.box (.p ((eA (eK .u64) 1 2) (setW S))), .box (.p ((eA (eK .u64) 1 2) (setW (closedS ps (sp ps S c i))))), .box (.p ((eA (eK .u64) 1 2) (setW (sp ps S c i))))] [] [(2, .p ((eA (eK .u64) 1 2) (setW (closedS ps (sp ps S c i)))))] (al (closed_ok _ _ (by omega)) (trivial)) (tr_then (tr_pre (E' := [(6, none, .ref 0 [])]) (H' := [.box (.p ((eA (eK .u64) 1 2) (setW (closedS ps (sp ps S c i)))))]) (fun _ _ h => q_w [1] [6] h) (tr_pre (fun _ _ => sl_obj_imp (d := .p ((eA (eK .u64) 1 2) (setW (closedS ps (sp ps S c i))))) 0 (.p ((eA (eK .u64) 1 2) (setW (stepS ps S c)))) (by kernel_rfl) ?_) ?_)))))))))
   ·refine impC_eq (congrArg (fun x => D.p ((eA (eK .u64) 1 2) x)) (a₁ := (setW (closedS ps (sp ps S c i)))) (a₂ := (setW (stepS ps S c))) ?_)
    rw [stepS, show i = ps.length by omega]
   exact q_z [.p ((eA (eK .u64) 1 2) (setW (stepS ps S c)))] (fun _ _ h => h)
end Go.Proofs.Ytjnjmnfacaakfaa
namespace Go.Proofs.Ytjnjmnfacaakfaa
open Go.Eng
def hasPre (s p : List UInt8) : Bool := decide (p.length ≤ s.length) && (s.take p.length == p)
theorem sHasPrefix_ok (s : List UInt8) (p : List UInt8) : Pure Try.prog 61 [.s s, .s p] (vbool (hasPre s p)) := by
 refine pure_of (fn := Try.f61) Try.func61 rfl rfl fun F_ W0_ => ?_
 refine tr_seq (q_t [0, 1] [vstr s, vstr p] [] (tr_then (tr_seq (q_k [(decide ((p.length : Int) ≤ (s.length : Int))) = true → (decide ((p.length : Int) ≤ (s.length : Int))) = true, (decide ((p.length : Int) ≤ (s.length : Int))) = true → (decide ((p.length : Int) ≤ (s.length : Int))) = true, (decide ((p.length : Int) ≤ (s.length : Int))) = true → (decide ((p.length : Int) ≤ (s.length : Int))) = true, (decide ((p.length : Int) ≤ (s.length : Int))) = true → ((0 : Int) ≤ 0), (decide ((p.length : Int) ≤ (s.length : Int))) = true → (0 ≤ (p.length : Int)), (decide ((p.length : Int) ≤ (s.length : Int))) = true → ((p.length : Int) ≤ (s.length : Int)), (decide ((p.length : Int) ≤ (s.length : Int))) = true → (((s.drop 0).take (p.length - 0)) = (s.take p.length)), (decide ((p.length : Int) ≤ (s.length : Int))) = true → (decide ((p.length : Int) ≤ (s.length : Int))) = true, (decide ((p.length : Int) ≤ (s.length : Int))) = true → (decide ((p.length : Int) ≤ (s.length : Int))) = true, (decide ((p.length : Int) ≤ (s.length : Int))) = true → (decide ((p.length : Int) ≤ (s.length : Int))) = true] [4] [vbool ((decide ((p.length : Int) ≤ (s.length : Int))) && ((s.take p.length) == p))] [(9, vstr (s.take p.length))] [] (al id (al id (al id (al (by omega) (al (by omega) (al (by intro hg; simp at hg; omega) (al (by intro _; rfl) (al id (al id (al id (trivial))))))))))) (tr_then (q_i (d := vbool ((decide ((p.length : Int) ≤ (s.length : Int))) && ((s.take p.length) == p))) 4 (vbool (hasPre s p)) ?_ ?_))))))
 ·refine imp_eq (congrArg (fun x => D.p (eB x)) (a₁ := ((decide ((p.length : Int) ≤ (s.length : Int))) && ((s.take p.length) == p))) (a₂ := (hasPre s p)) ?_)
  unfold hasPre; simp
 exact q_z [vbool (hasPre s p)] (fun _ _ h => h)
theorem hasPrefix_ok (s : List UInt8) (p : List UInt8) : Pure Try.prog 58 [.s s, .s p] (vbool (hasPre s p)) := by
 refine pure_of (fn := Try.f58) Try.func58 rfl rfl fun F_ W0_ => ?_
 exact tr_seq (q_t [0, 1] [vstr s, vstr p] [] (tr_then (tr_seq (q_k [Pure Try.prog 61 [.s s, .s p] (vbool (hasPre s p))] [4] [vbool (hasPre s p)] [] [(2, vbool (hasPre s p))] (al (sHasPrefix_ok _ _) (trivial)) (tr_then (q_z [vbool (hasPre s p)] (fun _ _ h => h)))))))
end Go.Proofs.Ytjnjmnfacaakfaa
namespace Go.Proofs.Ytjnjmnfacaakfaa
open Go.Eng
theorem sIndex1_ok (s : List UInt8) (c : UInt8) : Pure Try.prog 62 [.s s, .s ([c])] (vint .i64 (Lib.indexByte s c)) := by
 refine pure_of (fn := Try.f62) Try.func62 rfl rfl fun F_ W0_ => ?_
 refine tr_seq (q_t [0, 1] [vstr s, vstr ([c])] [] (tr_then (tr_seq (q_m [0, 1, 5] [vstr s, vstr ([c]), vint .i64 ((([c]).length : Nat) : Int)] (tr_then (tr_seq (tr_block (tr_seq (q_l [(!(((([c]).length : Nat) : Int) == 0)) = true → (!(((([c]).length : Nat) : Int) == 0)) = true, (!(((([c]).length : Nat) : Int) == 0)) = true → (!(((([c]).length : Nat) : Int) == 0)) = true, (!(((([c]).length : Nat) : Int) == 0)) = true → (!(((([c]).length : Nat) : Int) == 0)) = true] [0, 1, 5, 16] [vstr s, vstr ([c]), vint .i64 ((([c]).length : Nat) : Int), vbool ((((([c]).length : Nat) : Int) == 0) || (([c]) == s))] (al id (al id (al id (trivial)))) (tr_then (q_c ((((([c]).length : Nat) : Int) == 0) || (([c]) == s)) ((((([c]).length : Nat) : Int) = 0) ∨ (([c]) = s)) (fun hc1 => ?_) (fun hc1 => ?_))))))))))))
 ·refine tr_seq (q_m [4] [vint .i64 0] (tr_then (q_i (d := vint .i64 0) 4 (vint .i64 (Lib.indexByte s c)) ?_ ?_)))
  ·refine imp_eq (congrArg (fun x => D.p (eI x)) (a₁ := 0) (a₂ := (Lib.indexByte s c)) ?_)
   rcases hc1 with h | h; (simp at h); (subst h; simp [Lib.indexByte])
  exact q_z [vint .i64 (Lib.indexByte s c)] (fun _ _ h => h)
 ·refine tr_seq (q_m [0, 1, 5, 24] [vstr s, vstr ([c]), vint .i64 ((([c]).length : Nat) : Int), vbool (((([c]).length : Nat) : Int) == 1)] (tr_then (q_c (((([c]).length : Nat) : Int) == 1) (((([c]).length : Nat) : Int) = 1) (fun hc2 => ?_) (fun hc2 => (absurd (rfl) hc2)))))
  ·refine tr_seq (q_k [(0 : Int) ≤ 0, 0 < (([c]).length : Int), Pure Try.prog 56 [.s s, .v (.int .u8 ((([c]).getD 0 0).toNat : Int))] (vint .i64 (Lib.indexByte s ((([c]).getD 0 0).toNat : Int).toNat.toUInt8))] [4] [vint .i64 (Lib.indexByte s ((([c]).getD 0 0).toNat : Int).toNat.toUInt8)] [] [(3, vint .i64 (Lib.indexByte s ((([c]).getD 0 0).toNat : Int).toNat.toUInt8))] (al (by omega) (al (by omega) (al (slite_ok _ _) (trivial)))) (tr_then (q_i (d := vint .i64 (Lib.indexByte s ((([c]).getD 0 0).toNat : Int).toNat.toUInt8)) 4 (vint .i64 (Lib.indexByte s c)) ?_ ?_)))
   ·refine imp_eq (congrArg (fun x => D.p (eI x)) (a₁ := (Lib.indexByte s ((([c]).getD 0 0).toNat : Int).toNat.toUInt8)) (a₂ := (Lib.indexByte s c)) ?_)
    first | rfl | (simp; done) | omega | (simp_all; done) | grind
   exact q_z [vint .i64 (Lib.indexByte s c)] (fun _ _ h => h)
theorem indexByte_lt : ∀ (s : List UInt8) (c : UInt8), Lib.indexByte s c < s.length
 | [], c => by simp [Lib.indexByte]
 | b :: l, c => by
  have := indexByte_lt l c
  simp only [Lib.indexByte, List.length_cons]
  split
  ·omega
  ·split <;> omega
def cutB (s : List UInt8) (c : UInt8) : List UInt8 × List UInt8 × Bool := if 0 ≤ Lib.indexByte s c then (s.take (Lib.indexByte s c).toNat, s.drop ((Lib.indexByte s c) + 1).toNat, true) else (s, [], false)
theorem sCut1_ok (s : List UInt8) (c : UInt8) (hb0 : s.length < 4611686018427387904) : Pure Try.prog 60 [.s s, .s ([c])] (.tup [vstr ((cutB s c).1), vstr ((cutB s c).2.1), vbool ((cutB s c).2.2)]) := by
 have hx := indexByte_lt s c
 have hl : ([c] : List UInt8).length = 1 := rfl
 refine pure_of (fn := Try.f60) Try.func60 rfl rfl fun F_ W0_ => ?_
 refine tr_seq (q_t [0, 1] [vstr s, vstr ([c])] [] (tr_then (tr_seq (tr_seq (q_k [Pure Try.prog 62 [.s s, .s ([c])] (vint .i64 (Lib.indexByte s c))] [0, 1, 7] [vstr s, vstr ([c]), vint .i64 (Lib.indexByte s c)] [] [(2, vint .i64 (Lib.indexByte s c))] (al (sIndex1_ok _ _) (trivial)) (tr_then (tr_seq (q_m [0, 1, 7, 12] [vstr s, vstr ([c]), vint .i64 (Lib.indexByte s c), vbool (decide (0 ≤ (Lib.indexByte s c)))] (tr_then (q_e (0 ≤ (Lib.indexByte s c)) (fun hc1 => ?_) (fun hc1 => ?_)))))))))))
 ·refine tr_seq (q_d [(0 : Int) ≤ 0, 0 ≤ (Lib.indexByte s c), (Lib.indexByte s c) ≤ (s.length : Int), ((s.drop 0).take (((Lib.indexByte s c).toNat) - 0)) = (s.take ((Lib.indexByte s c).toNat)), (IntKind.wrap .i64 ((Lib.indexByte s c) + ((([c]).length : Nat) : Int))) = ((Lib.indexByte s c) + ((([c]).length : Nat) : Int)), (0 : Int) ≤ ((Lib.indexByte s c) + ((([c]).length : Nat) : Int)), ((Lib.indexByte s c) + ((([c]).length : Nat) : Int)) ≤ (s.length : Int), (s.length : Int) ≤ (s.length : Int), ((s.drop (((Lib.indexByte s c) + ((([c]).length : Nat) : Int)).toNat)).take (s.length - (((Lib.indexByte s c) + ((([c]).length : Nat) : Int)).toNat))) = (s.drop (((Lib.indexByte s c) + ((([c]).length : Nat) : Int)).toNat))] [4, 5, 6] [vstr (s.take ((Lib.indexByte s c).toNat)), vstr (s.drop (((Lib.indexByte s c) + ((([c]).length : Nat) : Int)).toNat)), vbool true] [(2, vstr (s.take ((Lib.indexByte s c).toNat))), (7, vint .i64 ((Lib.indexByte s c) + ((([c]).length : Nat) : Int))), (8, vstr (s.drop (((Lib.indexByte s c) + ((([c]).length : Nat) : Int)).toNat)))] [] (al (by omega) (al (by omega) (al (by omega) (al (by rfl) (al (wr64 (by omega) (by omega) (by omega)) (al (by omega) (al (by omega) (al (by omega) (al cut_drop_str (trivial)))))))))) (tr_then (q_i (d := vstr (s.take ((Lib.indexByte s c).toNat))) 4 (vstr ((cutB s c).1)) ?_ ?_)))
  ·refine imp_eq (congrArg (fun x => D.p (eS x)) (a₁ := (s.take ((Lib.indexByte s c).toNat))) (a₂ := ((cutB s c).1)) ?_)
   unfold cutB; rw [if_pos hc1]
  refine q_i (d := vstr (s.drop (((Lib.indexByte s c) + ((([c]).length : Nat) : Int)).toNat))) 5 (vstr ((cutB s c).2.1)) ?_ ?_
  ·refine imp_eq (congrArg (fun x => D.p (eS x)) (a₁ := (s.drop (((Lib.indexByte s c) + ((([c]).length : Nat) : Int)).toNat))) (a₂ := ((cutB s c).2.1)) ?_)
   unfold cutB; rw [if_pos hc1]; simp
  refine q_i (d := vbool true) 6 (vbool ((cutB s c).2.2)) ?_ ?_
  ·refine imp_eq (congrArg (fun x => D.p (eB x)) (a₁ := true) (a₂ := ((cutB s c).2.2)) ?_)
   unfold cutB; rw [if_pos hc1]
  exact q_z [vstr ((cutB s c).1), vstr ((cutB s c).2.1), vbool ((cutB s c).2.2)] (fun _ _ h => h)
 ·refine tr_skip (tr_then (tr_seq (q_m [4, 5, 6] [vstr s, vstr ([] : List UInt8), vbool false] (tr_then (q_i (d := vstr s) 4 (vstr ((cutB s c).1)) ?_ ?_)))))
  ·refine imp_eq (congrArg (fun x => D.p (eS x)) (a₁ := s) (a₂ := ((cutB s c).1)) ?_)
   unfold cutB; rw [if_neg hc1]
  refine q_i (d := vstr ([] : List UInt8)) 5 (vstr ((cutB s c).2.1)) ?_ ?_
  ·refine imp_eq (congrArg (fun x => D.p (eS x)) (a₁ := ([] : List UInt8)) (a₂ := ((cutB s c).2.1)) ?_)
   unfold cutB; rw [if_neg hc1]
  refine q_i (d := vbool false) 6 (vbool ((cutB s c).2.2)) ?_ ?_
  ·refine imp_eq (congrArg (fun x => D.p (eB x)) (a₁ := false) (a₂ := ((cutB s c).2.2)) ?_)
   unfold cutB; rw [if_neg hc1]
  exact q_z [vstr ((cutB s c).1), vstr ((cutB s c).2.1), vbool ((cutB s c).2.2)] (fun _ _ h => h)
theorem cut1_ok (s : List UInt8) (c : UInt8) (hb0 : s.length < 4611686018427387904) : Pure Try.prog 57 [.s s, .s ([c])] (.tup [vstr ((cutB s c).1), vstr ((cutB s c).2.1), vbool ((cutB s c).2.2)]) := by
 refine pure_of (fn := Try.f57) Try.func57 rfl rfl fun F_ W0_ => ?_
 exact tr_seq (q_t [0, 1] [vstr s, vstr ([c])] [] (tr_then (tr_seq (q_k [Pure Try.prog 60 [.s s, .s ([c])] (.tup [vstr ((cutB s c).1), vstr ((cutB s c).2.1), vbool ((cutB s c).2.2)])] [4, 5, 6] [vstr ((cutB s c).1), vstr ((cutB s c).2.1), vbool ((cutB s c).2.2)] [] [(2, .tup [vstr ((cutB s c).1), vstr ((cutB s c).2.1), vbool ((cutB s c).2.2)])] (al (sCut1_ok _ _ (by omega)) (trivial)) (tr_then (q_z [vstr ((cutB s c).1), vstr ((cutB s c).2.1), vbool ((cutB s c).2.2)] (fun _ _ h => h)))))))
end Go.Proofs.Ytjnjmnfacaakfaa
namespace Go.Proofs.Ytjnjmnfacaakfaa
open Go.Eng
theorem namesSymbolB_ok (b : UInt8) : Pure Try.prog 42 [.v (.int .u8 (b.toNat : Int))] (vint .i64 (sym (b.toNat : Int))) := namesSymbol_ok _ (by omega) (by have := b.toNat_lt; omega)
theorem refSymbolB_ok (b : UInt8) : Pure Try.prog 43 [.v (.int .u8 (b.toNat : Int))] (vint .i64 (sym (b.toNat : Int))) := refSymbol_ok _ (by omega) (by have := b.toNat_lt; omega)
def word64 (S : Nat → Bool) : Int := ((wordN S 64 : Nat) : Int)
def noSet : Nat → Bool := fun _ => false
theorem word64_noSet : word64 noSet = 0 := by decide +kernel
theorem word64_36 : word64 (upd noSet 36 true) = 68719476736 := by decide +kernel
theorem word64_or (S : Nat → Bool) (i : Int) (h0 : 0 ≤ i) (h1 : i < 64) : bitsOf .or .u64 (word64 S) (IntKind.wrap .u64 (1 * 2 ^ min i.toNat (IntKind.bits .u64))) = word64 (upd S i.toNat true) := by
 obtain ⟨n, rfl⟩ := Int.eq_ofNat_of_zero_le h0
 have hn : n < 64 := by omega
 show bitsOf .or .u64 (word64 S) (IntKind.wrap .u64 (1 * 2 ^ min ((n : Int)).toNat (IntKind.bits .u64))) = word64 (upd S n true)
 rw [shl_u64 hn]
 unfold word64
 rw [or_u64 (wordN_lt S 64) (Nat.pow_lt_pow_right (by omega) hn), wordN_or S hn]
def range (S : Nat → Bool) (f t : Int) : Nat → Bool := fun m => S m || decide (f ≤ (m : Int) ∧ (m : Int) < t)
theorem range_none (S : Nat → Bool) (f : Int) : range S f f = S := by
 funext m
 simp [range]
 intro h1 h2
 omega
theorem range_step (S : Nat → Bool) (f t : Int) (h0 : 0 ≤ t) (h : f ≤ t) : upd (range S f t) t.toNat true = range S f (t + 1) := by
 funext m
 unfold upd range
 by_cases e : m = t.toNat
 ·rw [if_pos e]
  have : f ≤ (m : Int) ∧ (m : Int) < t + 1 := by omega
  simp [this]
 ·rw [if_neg e]
  congr 1
  rw [decide_eq_decide]
  omega
theorem range_or (S : Nat → Bool) (f t : Int) (h0 : 0 ≤ t) (h1 : t < 64) (h : f ≤ t) : bitsOf .or .u64 (word64 (range S f t)) (IntKind.wrap .u64 (1 * 2 ^ min t.toNat (IntKind.bits .u64))) = word64 (range S f (t + 1)) := by
 rw [word64_or _ _ h0 h1, range_step _ _ _ h0 h]
def s0 (l : List UInt8) : Int := sym (l.getD 0 0).toNat
def s1 (l : List UInt8) : Int := sym ((l.drop 1).getD 1 0).toNat
def memb : Nat → List UInt8 → (Nat → Bool) → Option (Nat → Bool)
 | 0, _, S => some S
 | n + 1, l, S => if l.length = 0 then some S else
  if s0 l < 0 ∨ s0 l = 36 then none else
  if hasPre (l.drop 1) [45] = true then
   (if (l.drop 1).length < 2 then none else
    if (s1 l < s0 l ∨ s1 l = 36) ∨ s0 l < 26 ∧ 26 ≤ s1 l then none
    else memb n ((l.drop 1).drop 2) (range S (s0 l) (s1 l + 1)))
  else memb n (l.drop 1) (range S (s0 l) (s0 l + 1))
theorem memb_nil {k : Nat} {l : List UInt8} {S : Nat → Bool} (h : l.length = 0) : memb k l S = some S := by
 cases k with
 | zero => rfl
 | succ k => rw [memb, if_pos h]
theorem memb_1 {k : Nat} {l : List UInt8} {S : Nat → Bool} (h : 0 < l.length) (hk : l.length ≤ k) (h1 : s0 l < 0 ∨ s0 l = 36) : memb k l S = none := by
 obtain ⟨k, rfl⟩ : ∃ j, k = j + 1 := ⟨k - 1, by omega⟩
 rw [memb, if_neg (by omega), if_pos h1]
theorem memb_2 {k : Nat} {l : List UInt8} {S : Nat → Bool} (h : 0 < l.length) (hk : l.length ≤ k) (h1 : ¬ (s0 l < 0 ∨ s0 l = 36)) (h2 : hasPre (l.drop 1) [45] = true) (h3 : (l.drop 1).length < 2) : memb k l S = none := by
 obtain ⟨k, rfl⟩ : ∃ j, k = j + 1 := ⟨k - 1, by omega⟩
 rw [memb, if_neg (by omega), if_neg h1, if_pos h2, if_pos h3]
theorem memb_3 {k : Nat} {l : List UInt8} {S : Nat → Bool} (h : 0 < l.length) (hk : l.length ≤ k) (h1 : ¬ (s0 l < 0 ∨ s0 l = 36)) (h2 : hasPre (l.drop 1) [45] = true) (h3 : ¬ (l.drop 1).length < 2) (h4 : (s1 l < s0 l ∨ s1 l = 36) ∨ s0 l < 26 ∧ 26 ≤ s1 l) : memb k l S = none := by
 obtain ⟨k, rfl⟩ : ∃ j, k = j + 1 := ⟨k - 1, by omega⟩
 rw [memb, if_neg (by omega), if_neg h1, if_pos h2, if_neg h3, if_pos h4]
theorem memb_4 {k : Nat} {l : List UInt8} {S : Nat → Bool} (h : 0 < l.length) (hk : l.length ≤ k) (h1 : ¬ (s0 l < 0 ∨ s0 l = 36)) (h2 : hasPre (l.drop 1) [45] = true) (h3 : ¬ (l.drop 1).length < 2) (h4 : ¬ ((s1 l < s0 l ∨ s1 l = 36) ∨ s0 l < 26 ∧ 26 ≤ s1 l)) : memb k l S = memb (k - 1) ((l.drop 1).drop 2) (range S (s0 l) (s1 l + 1)) := by
 obtain ⟨k, rfl⟩ : ∃ j, k = j + 1 := ⟨k - 1, by omega⟩
 rw [memb, if_neg (by omega), if_neg h1, if_pos h2, if_neg h3, if_neg h4]; rfl
theorem memb_5 {k : Nat} {l : List UInt8} {S : Nat → Bool} (h : 0 < l.length) (hk : l.length ≤ k) (h1 : ¬ (s0 l < 0 ∨ s0 l = 36)) (h2 : ¬ hasPre (l.drop 1) [45] = true) : memb k l S = memb (k - 1) (l.drop 1) (range S (s0 l) (s0 l + 1)) := by
 obtain ⟨k, rfl⟩ : ∃ j, k = j + 1 := ⟨k - 1, by omega⟩
 rw [memb, if_neg (by omega), if_neg h1, if_neg h2]; rfl
def classM (b : List UInt8) : Option (Nat → Bool) := if (b.getD 0 0).toNat = 45 then memb b.length (b.drop 1) (upd noSet 36 true) else memb b.length b noSet
def classS (s : List UInt8) : Option ((Nat → Bool) × List UInt8) := if (cutB s 93).2.2 = false ∨ (cutB s 93).1 = [] then none else (classM (cutB s 93).1).map fun S => (S, (cutB s 93).2.1)
def cSet (x : Option ((Nat → Bool) × List UInt8)) : Int := match x with
 | some y => word64 y.1
 | none => 0
def cRest (x : Option ((Nat → Bool) × List UInt8)) : List UInt8 := match x with
 | some y => y.2
 | none => []
theorem cut1_le (s : List UInt8) (c : UInt8) : (cutB s c).1.length ≤ s.length := by
 unfold cutB
 split
 ·simp; omega
 ·simp
theorem class_some {s : List UInt8} {S : Nat → Bool} (h : ¬ ((cutB s 93).2.2 = false ∨ (cutB s 93).1 = [])) (h1 : classM (cutB s 93).1 = some S) : classS s = some (S, (cutB s 93).2.1) := by
 unfold classS
 rw [if_neg h, h1]; rfl
theorem class_none {s : List UInt8} (h : ¬ ((cutB s 93).2.2 = false ∨ (cutB s 93).1 = [])) (h1 : classM (cutB s 93).1 = none) : classS s = none := by
 unfold classS
 rw [if_neg h, h1]; rfl
theorem class_none0 {s : List UInt8} (h : (cutB s 93).2.2 = false ∨ (cutB s 93).1 = []) : classS s = none := by
 unfold classS
 rw [if_pos h]
theorem sym_ge (c : Int) : -1 ≤ sym c := by
 unfold sym
 (repeat (split)) <;> omega
theorem class_ok (s : List UInt8) (hb0 : s.length < 4611686018427387904) : Pure Try.prog 55 [.s s] (.tup [vint .u64 (cSet (classS s)), vstr (cRest (classS s)), vbool ((classS s).isSome)]) := by
 have hcl := cut1_le s 93
 refine pure_of (fn := Try.f55) Try.func55 rfl rfl fun F_ W0_ => ?_
 refine tr_seq (q_t [0, 2] [vstr s, vint .u64 0] [] (tr_then (tr_seq (q_k [Pure Try.prog 57 [.s s, .s ([93] : List UInt8)] (.tup [vstr ((cutB s 93).1), vstr ((cutB s 93).2.1), vbool ((cutB s 93).2.2)])] [2, 3, 4, 5] [vint .u64 0, vstr ((cutB s 93).2.1), vbool ((cutB s 93).2.2), vstr ((cutB s 93).1)] [] [(1, .tup [vstr ((cutB s 93).1), vstr ((cutB s 93).2.1), vbool ((cutB s 93).2.2)])] (al (cut1_ok _ _ (by omega)) (trivial)) (tr_then (tr_seq (tr_seq (q_l [(!(!((cutB s 93).2.2))) = true → (!(!((cutB s 93).2.2))) = true, (!(!((cutB s 93).2.2))) = true → (!(!((cutB s 93).2.2))) = true] [2, 3, 5, 20] [vint .u64 0, vstr ((cutB s 93).2.1), vstr ((cutB s 93).1), vbool ((!((cutB s 93).2.2)) || (((cutB s 93).1) == ([] : List UInt8)))] (al id (al id (trivial))) (tr_then (q_c ((!((cutB s 93).2.2)) || (((cutB s 93).1) == ([] : List UInt8))) ((((cutB s 93).2.2) = false) ∨ (((cutB s 93).1) = ([] : List UInt8))) (fun hc1 => ?_) (fun hc1 => ?_)))))))))))
 ·refine tr_seq (q_m [2, 3, 4] [vint .u64 0, vstr ([] : List UInt8), vbool false] (tr_then (q_i (d := vint .u64 0) 2 (vint .u64 (cSet (classS s))) ?_ ?_)))
  ·refine imp_eq (congrArg (fun x => D.p ((eK .u64) x)) (a₁ := 0) (a₂ := (cSet (classS s))) ?_)
   rw [class_none0 hc1]; rfl
  refine q_i (d := vstr ([] : List UInt8)) 3 (vstr (cRest (classS s))) ?_ ?_
  ·refine imp_eq (congrArg (fun x => D.p (eS x)) (a₁ := ([] : List UInt8)) (a₂ := (cRest (classS s))) ?_)
   rw [class_none0 hc1]; rfl
  refine q_i (d := vbool false) 4 (vbool ((classS s).isSome)) ?_ ?_
  ·refine imp_eq (congrArg (fun x => D.p (eB x)) (a₁ := false) (a₂ := ((classS s).isSome)) ?_)
   rw [class_none0 hc1]; rfl
  exact q_z [vint .u64 (cSet (classS s)), vstr (cRest (classS s)), vbool ((classS s).isSome)] (fun _ _ h => h)
 ·refine tr_skip (tr_then (tr_join (α := (List UInt8) × (Nat → Bool)) (fun z : (List UInt8) × (Nat → Bool) => (fun (l : List UInt8) (S : Nat → Bool) => [(2, none, vint .u64 (word64 S)), (3, none, vstr ((cutB s 93).2.1)), (5, none, vstr l)]) z.1 z.2) (fun z : (List UInt8) × (Nat → Bool) => (fun (l : List UInt8) (S : Nat → Bool) => []) z.1 z.2) (fun z : (List UInt8) × (Nat → Bool) => (fun (l : List UInt8) (S : Nat → Bool) => (memb (cutB s 93).1.length l S = classM (cutB s 93).1) ∧ (l.length ≤ (cutB s 93).1.length)) z.1 z.2) ?_ ?_))
  ·intro z hz
   obtain ⟨l, S⟩ := z
   have hz : (memb (cutB s 93).1.length l S = classM (cutB s 93).1) ∧ (l.length ≤ (cutB s 93).1.length) := hz
   obtain ⟨hj6_0, hj6_1⟩ := hz
   refine tr_seq (tr_block (tr_loop (α := Nat × (List UInt8) × (Nat → Bool)) (fun z : Nat × (List UInt8) × (Nat → Bool) => (fun (k : Nat) (l : List UInt8) (S : Nat → Bool) => [(2, none, vint .u64 (word64 S)), (3, none, vstr ((cutB s 93).2.1)), (5, none, vstr l)]) z.1 z.2.1 z.2.2) (fun z : Nat × (List UInt8) × (Nat → Bool) => (fun (k : Nat) (l : List UInt8) (S : Nat → Bool) => []) z.1 z.2.1 z.2.2) (fun z : Nat × (List UInt8) × (Nat → Bool) => (fun (k : Nat) (l : List UInt8) (S : Nat → Bool) => (memb k l S = classM (cutB s 93).1) ∧ (l.length ≤ k) ∧ (l.length ≤ s.length)) z.1 z.2.1 z.2.2) (fun z : Nat × (List UInt8) × (Nat → Bool) => (fun (k : Nat) (l : List UInt8) (S : Nat → Bool) => l.length) z.1 z.2.1 z.2.2) ((cutB s 93).1.length, l, S) ?_ ?_ ?_))
   ·show (memb ((cutB s 93).1.length) l S = classM (cutB s 93).1) ∧ (l.length ≤ ((cutB s 93).1.length)) ∧ (l.length ≤ s.length)
    refine ⟨?_, ?_, ?_⟩
    ·exact hj6_0
    ·exact hj6_1
    ·omega
   ·intro A_ W_ hS
    exact q_w [] [2, 3, 5] hS
   ·intro z hz
    obtain ⟨k, l, S⟩ := z
    have hz : (memb k l S = classM (cutB s 93).1) ∧ (l.length ≤ k) ∧ (l.length ≤ s.length) := hz
    obtain ⟨hi0_0, hi0_1, hi0_2⟩ := hz
    have e0 : s0 l = sym (l.getD 0 0).toNat := rfl
    have e1 : s1 l = sym ((l.drop 1).getD 1 0).toNat := rfl
    have b0 := sym_le ((l.getD 0 0).toNat : Int)
    have b1 := sym_le (((l.drop 1).getD 1 0).toNat : Int)
    have b2 := sym_ge ((l.getD 0 0).toNat : Int)
    have b3 := sym_ge (((l.drop 1).getD 1 0).toNat : Int)
    refine tr_seq (tr_seq (q_t [2, 3, 5, 28] [vint .u64 (word64 S), vstr ((cutB s 93).2.1), vstr l, vbool (decide (0 < (l.length : Int)))] [] (tr_then (q_e (0 < (l.length : Int)) (fun hc2 => ?_) (fun hc2 => ?_)))))
    ·refine tr_skip (tr_then (tr_block (tr_seq (q_k [(0 : Int) ≤ 0, 0 < (l.length : Int), Pure Try.prog 42 [.v (.int .u8 ((l.getD 0 0).toNat : Int))] (vint .i64 (sym ((l.getD 0 0).toNat : Int)))] [2, 3, 5, 6] [vint .u64 (word64 S), vstr ((cutB s 93).2.1), vstr l, vint .i64 (sym ((l.getD 0 0).toNat : Int))] [] [(2, vint .i64 (sym ((l.getD 0 0).toNat : Int)))] ?_ ?_))))
     ·refine al (by omega) (al (by omega) (al ?_ (trivial)))
      ·first | exact namesSymbolB_ok _ | exact namesSymbol_ok _ (by omega) (by omega)
     refine tr_then (tr_seq (q_m [2, 3, 5, 6, 7] [vint .u64 (word64 S), vstr ((cutB s 93).2.1), vstr l, vint .i64 (sym ((l.getD 0 0).toNat : Int)), vint .i64 (sym ((l.getD 0 0).toNat : Int))] (tr_then (tr_seq (tr_seq (q_l [(!(decide ((sym ((l.getD 0 0).toNat : Int)) < 0))) = true → (!(decide ((sym ((l.getD 0 0).toNat : Int)) < 0))) = true, (!(decide ((sym ((l.getD 0 0).toNat : Int)) < 0))) = true → (!(decide ((sym ((l.getD 0 0).toNat : Int)) < 0))) = true] [2, 3, 5, 6, 7, 38] [vint .u64 (word64 S), vstr ((cutB s 93).2.1), vstr l, vint .i64 (sym ((l.getD 0 0).toNat : Int)), vint .i64 (sym ((l.getD 0 0).toNat : Int)), vbool ((decide ((sym ((l.getD 0 0).toNat : Int)) < 0)) || ((sym ((l.getD 0 0).toNat : Int)) == 36))] (al id (al id (trivial))) (tr_then (q_c ((decide ((sym ((l.getD 0 0).toNat : Int)) < 0)) || ((sym ((l.getD 0 0).toNat : Int)) == 36)) (((sym ((l.getD 0 0).toNat : Int)) < 0) ∨ ((sym ((l.getD 0 0).toNat : Int)) = 36)) (fun hc3 => ?_) (fun hc3 => ?_)))))))))
     ·refine tr_seq (q_m [2, 3, 4] [vint .u64 0, vstr ([] : List UInt8), vbool false] (tr_then (q_i (d := vint .u64 0) 2 (vint .u64 (cSet (classS s))) ?_ ?_)))
      ·refine imp_eq (congrArg (fun x => D.p ((eK .u64) x)) (a₁ := 0) (a₂ := (cSet (classS s))) ?_)
       first | (rw [class_some hc1 (by rw [← hi0_0, memb_nil (by omega)])]; rfl) | ((first | (rw [class_none hc1 (by rw [← hi0_0]; exact memb_1 (by omega) hi0_1 (by assumption))]) | (rw [class_none hc1 (by rw [← hi0_0]; exact memb_2 (by omega) hi0_1 (by assumption) (by assumption) (by omega))]) | (rw [class_none hc1 (by rw [← hi0_0]; exact memb_3 (by omega) hi0_1 (by assumption) (by assumption) (by omega) (by assumption))])); rfl)
      refine q_i (d := vstr ([] : List UInt8)) 3 (vstr (cRest (classS s))) ?_ ?_
      ·refine imp_eq (congrArg (fun x => D.p (eS x)) (a₁ := ([] : List UInt8)) (a₂ := (cRest (classS s))) ?_)
       first | (rw [class_some hc1 (by rw [← hi0_0, memb_nil (by omega)])]; rfl) | ((first | (rw [class_none hc1 (by rw [← hi0_0]; exact memb_1 (by omega) hi0_1 (by assumption))]) | (rw [class_none hc1 (by rw [← hi0_0]; exact memb_2 (by omega) hi0_1 (by assumption) (by assumption) (by omega))]) | (rw [class_none hc1 (by rw [← hi0_0]; exact memb_3 (by omega) hi0_1 (by assumption) (by assumption) (by omega) (by assumption))])); rfl)
      refine q_i (d := vbool false) 4 (vbool ((classS s).isSome)) ?_ ?_
      ·refine imp_eq (congrArg (fun x => D.p (eB x)) (a₁ := false) (a₂ := ((classS s).isSome)) ?_)
       first | (rw [class_some hc1 (by rw [← hi0_0, memb_nil (by omega)])]; rfl) | ((first | (rw [class_none hc1 (by rw [← hi0_0]; exact memb_1 (by omega) hi0_1 (by assumption))]) | (rw [class_none hc1 (by rw [← hi0_0]; exact memb_2 (by omega) hi0_1 (by assumption) (by assumption) (by omega))]) | (rw [class_none hc1 (by rw [← hi0_0]; exact memb_3 (by omega) hi0_1 (by assumption) (by assumption) (by omega) (by assumption))])); rfl)
      exact q_z [vint .u64 (cSet (classS s)), vstr (cRest (classS s)), vbool ((classS s).isSome)] (fun _ _ h => h)
     ·refine tr_skip (tr_then (tr_seq (q_k [(0 : Int) ≤ 1, 1 ≤ (l.length : Int), (l.length : Int) ≤ (l.length : Int), ((l.drop 1).take (l.length - 1)) = (l.drop 1)] [2, 3, 5, 6, 7] [vint .u64 (word64 S), vstr ((cutB s 93).2.1), vstr (l.drop 1), vint .i64 (sym ((l.getD 0 0).toNat : Int)), vint .i64 (sym ((l.getD 0 0).toNat : Int))] [(1, vstr (l.drop 1))] [] (al (by omega) (al (by omega) (al (by omega) (al cut_drop_str (trivial))))) (tr_then (tr_join (α := Int × (List UInt8)) (fun z : Int × (List UInt8) => (fun (t : Int) (l1 : List UInt8) => [(2, none, vint .u64 (word64 S)), (3, none, vstr ((cutB s 93).2.1)), (5, none, vstr l1), (6, none, vint .i64 (sym ((l.getD 0 0).toNat : Int))), (7, none, vint .i64 t)]) z.1 z.2) (fun z : Int × (List UInt8) => (fun (t : Int) (l1 : List UInt8) => []) z.1 z.2) (fun z : Int × (List UInt8) => (fun (t : Int) (l1 : List UInt8) => (memb k l S = memb (k - 1) l1 (range S (s0 l) (t + 1))) ∧ (l1.length < l.length) ∧ (t ≤ 36) ∧ (s0 l ≤ t)) z.1 z.2) ?_ ?_)))))
      ·intro z hz
       obtain ⟨t, l1⟩ := z
       have hz : (memb k l S = memb (k - 1) l1 (range S (s0 l) (t + 1))) ∧ (l1.length < l.length) ∧ (t ≤ 36) ∧ (s0 l ≤ t) := hz
       obtain ⟨hj19_0, hj19_1, hj19_2, hj19_3⟩ := hz
       refine tr_seq (q_t [2, 3, 5, 7, 8] [vint .u64 (word64 S), vstr ((cutB s 93).2.1), vstr l1, vint .i64 t, vint .i64 (sym ((l.getD 0 0).toNat : Int))] [] (tr_then (tr_block (tr_loop (α := Nat) (fun z : Nat => (fun (m : Nat) => [(2, none, vint .u64 (word64 (range S (s0 l) (s0 l + m)))), (3, none, vstr ((cutB s 93).2.1)), (5, none, vstr l1), (7, none, vint .i64 t), (8, none, vint .i64 (s0 l + m))]) z) (fun z : Nat => (fun (m : Nat) => []) z) (fun z : Nat => (fun (m : Nat) => (s0 l + m ≤ t + 1)) z) (fun z : Nat => (fun (m : Nat) => (t + 1 - s0 l - m).toNat) z) 0 ?_ ?_ ?_))))
       ·show (s0 l + 0 ≤ t + 1)
        ·omega
       ·intro A_ W_ hS
        replace hS := q_a (d := vint .u64 (word64 S)) 2 (vint .u64 (word64 (range S (s0 l) (s0 l + 0)))) (eqD_int (by rw [Int.add_zero, range_none])) hS
        replace hS := q_a (d := vint .i64 (sym ((l.getD 0 0).toNat : Int))) 8 (vint .i64 (s0 l + 0)) (eqD_int (by omega)) hS
        exact q_w [] [2, 3, 5, 7, 8] hS
       ·intro z hz
        revert z; intro m hz
        have hz : (s0 l + m ≤ t + 1) := hz
        have hi1_0 := hz
        refine tr_seq (tr_seq (q_t [2, 3, 5, 7, 8, 69] [vint .u64 (word64 (range S (s0 l) (s0 l + m))), vstr ((cutB s 93).2.1), vstr l1, vint .i64 t, vint .i64 (s0 l + m), vbool (decide ((s0 l + m) ≤ t))] [] (tr_then (q_e ((s0 l + m) ≤ t) (fun hc4 => ?_) (fun hc4 => ?_)))))
        ·refine tr_skip (tr_then (tr_seq (tr_block (q_l [(0 : Int) ≤ (s0 l + m)] [2, 3, 5, 7, 8] [vint .u64 (bitsOf .or .u64 (word64 (range S (s0 l) (s0 l + m))) (IntKind.wrap .u64 ((1 : Int) * 2 ^ min (s0 l + m).toNat (IntKind.bits .u64)))), vstr ((cutB s 93).2.1), vstr l1, vint .i64 t, vint .i64 (s0 l + m)] (al (by omega) (trivial)) (in_n (tr_then (q_k [(IntKind.wrap .i64 ((s0 l + m) + 1)) = ((s0 l + m) + 1)] [2, 3, 5, 7, 8] [vint .u64 (bitsOf .or .u64 (word64 (range S (s0 l) (s0 l + m))) (IntKind.wrap .u64 ((1 : Int) * 2 ^ min (s0 l + m).toNat (IntKind.bits .u64)))), vstr ((cutB s 93).2.1), vstr l1, vint .i64 t, vint .i64 ((s0 l + m) + 1)] [(1, vint .i64 ((s0 l + m) + 1))] [] (al (wr64 (by omega) (by omega) (by omega)) (trivial)) (lp_end (m + 1) ?_ ?_ ?_))))))))
         ·show (s0 l + (m + 1) ≤ t + 1)
          ·omega
         ·show (t + 1 - s0 l - (m + 1)).toNat < (t + 1 - s0 l - m).toNat
          omega
         ·intro A_ W_ hS
          replace hS := q_a (d := vint .u64 (bitsOf .or .u64 (word64 (range S (s0 l) (s0 l + m))) (IntKind.wrap .u64 ((1 : Int) * 2 ^ min (s0 l + m).toNat (IntKind.bits .u64))))) 2 (vint .u64 (word64 (range S (s0 l) (s0 l + (m + 1))))) (eqD_int (by rw [← Int.add_assoc]; exact range_or _ _ _ (by omega) (by omega) (by omega))) hS
          replace hS := q_a (d := vint .i64 ((s0 l + m) + 1)) 8 (vint .i64 (s0 l + (m + 1))) (eqD_int (by omega)) hS
          exact q_w [] [2, 3, 5, 7, 8] hS
        ·refine tr_exit (th_e (th_e (in_hit (in_n (lp_end ((k - 1), l1, (range S (s0 l) (s0 l + m))) ?_ ?_ ?_)))))
         ·show (memb (k - 1) l1 (range S (s0 l) (s0 l + m)) = classM (cutB s 93).1) ∧ (l1.length ≤ (k - 1)) ∧ (l1.length ≤ s.length)
          refine ⟨?_, ?_, ?_⟩
          ·rw [← hi0_0, hj19_0, show t + 1 = s0 l + m by omega]
          ·omega
          ·omega
         ·show l1.length < l.length
          omega
         ·intro A_ W_ hS
          exact q_w [] [2, 3, 5] hS
      ·refine tr_seq (q_r [Pure Try.prog 58 [.s (l.drop 1), .s ([45] : List UInt8)] (vbool (hasPre (l.drop 1) ([45] : List UInt8)))] [2, 3, 5, 6, 7, 42] [vint .u64 (word64 S), vstr ((cutB s 93).2.1), vstr (l.drop 1), vint .i64 (sym ((l.getD 0 0).toNat : Int)), vint .i64 (sym ((l.getD 0 0).toNat : Int)), vbool (hasPre (l.drop 1) ([45] : List UInt8))] [] [] [(1, vbool (hasPre (l.drop 1) ([45] : List UInt8)))] (al (hasPrefix_ok _ _) (trivial)) (tr_then (tr_cond (hasPre (l.drop 1) ([45] : List UInt8)) (by kernel_rfl) (fun hc5 => ?_) (fun hc5 => ?_))))
       ·refine tr_seq (tr_seq (q_m [2, 3, 5, 6, 45] [vint .u64 (word64 S), vstr ((cutB s 93).2.1), vstr (l.drop 1), vint .i64 (sym ((l.getD 0 0).toNat : Int)), vbool (decide ((((l.drop 1).length : Nat) : Int) < 2))] (tr_then (q_e ((((l.drop 1).length : Nat) : Int) < 2) (fun hc6 => ?_) (fun hc6 => ?_)))))
        ·refine tr_seq (q_m [2, 3, 4] [vint .u64 0, vstr ([] : List UInt8), vbool false] (tr_then (q_i (d := vint .u64 0) 2 (vint .u64 (cSet (classS s))) ?_ ?_)))
         ·refine imp_eq (congrArg (fun x => D.p ((eK .u64) x)) (a₁ := 0) (a₂ := (cSet (classS s))) ?_)
          first | (rw [class_some hc1 (by rw [← hi0_0, memb_nil (by omega)])]; rfl) | ((first | (rw [class_none hc1 (by rw [← hi0_0]; exact memb_1 (by omega) hi0_1 (by assumption))]) | (rw [class_none hc1 (by rw [← hi0_0]; exact memb_2 (by omega) hi0_1 (by assumption) (by assumption) (by omega))]) | (rw [class_none hc1 (by rw [← hi0_0]; exact memb_3 (by omega) hi0_1 (by assumption) (by assumption) (by omega) (by assumption))])); rfl)
         refine q_i (d := vstr ([] : List UInt8)) 3 (vstr (cRest (classS s))) ?_ ?_
         ·refine imp_eq (congrArg (fun x => D.p (eS x)) (a₁ := ([] : List UInt8)) (a₂ := (cRest (classS s))) ?_)
          first | (rw [class_some hc1 (by rw [← hi0_0, memb_nil (by omega)])]; rfl) | ((first | (rw [class_none hc1 (by rw [← hi0_0]; exact memb_1 (by omega) hi0_1 (by assumption))]) | (rw [class_none hc1 (by rw [← hi0_0]; exact memb_2 (by omega) hi0_1 (by assumption) (by assumption) (by omega))]) | (rw [class_none hc1 (by rw [← hi0_0]; exact memb_3 (by omega) hi0_1 (by assumption) (by assumption) (by omega) (by assumption))])); rfl)
         refine q_i (d := vbool false) 4 (vbool ((classS s).isSome)) ?_ ?_
         ·refine imp_eq (congrArg (fun x => D.p (eB x)) (a₁ := false) (a₂ := ((classS s).isSome)) ?_)
          first | (rw [class_some hc1 (by rw [← hi0_0, memb_nil (by omega)])]; rfl) | ((first | (rw [class_none hc1 (by rw [← hi0_0]; exact memb_1 (by omega) hi0_1 (by assumption))]) | (rw [class_none hc1 (by rw [← hi0_0]; exact memb_2 (by omega) hi0_1 (by assumption) (by assumption) (by omega))]) | (rw [class_none hc1 (by rw [← hi0_0]; exact memb_3 (by omega) hi0_1 (by assumption) (by assumption) (by omega) (by assumption))])); rfl)
         exact q_z [vint .u64 (cSet (classS s)), vstr (cRest (classS s)), vbool ((classS s).isSome)] (fun _ _ h => h)
        ·refine tr_skip (tr_then (tr_seq (q_k [(0 : Int) ≤ 1, 1 < ((l.drop 1).length : Int), Pure Try.prog 42 [.v (.int .u8 (((l.drop 1).getD 1 0).toNat : Int))] (vint .i64 (sym (((l.drop 1).getD 1 0).toNat : Int)))] [2, 3, 5, 6, 7] [vint .u64 (word64 S), vstr ((cutB s 93).2.1), vstr (l.drop 1), vint .i64 (sym ((l.getD 0 0).toNat : Int)), vint .i64 (sym (((l.drop 1).getD 1 0).toNat : Int))] [] [(2, vint .i64 (sym (((l.drop 1).getD 1 0).toNat : Int)))] ?_ ?_)))
         ·refine al (by omega) (al (by omega) (al ?_ (trivial)))
          ·first | exact namesSymbolB_ok _ | exact namesSymbol_ok _ (by omega) (by omega)
         refine tr_then (tr_seq (q_k [(0 : Int) ≤ 2, 2 ≤ ((l.drop 1).length : Int), ((l.drop 1).length : Int) ≤ ((l.drop 1).length : Int), (((l.drop 1).drop 2).take (((l.drop 1).length) - 2)) = ((l.drop 1).drop 2)] [2, 3, 5, 6, 7] [vint .u64 (word64 S), vstr ((cutB s 93).2.1), vstr ((l.drop 1).drop 2), vint .i64 (sym ((l.getD 0 0).toNat : Int)), vint .i64 (sym (((l.drop 1).getD 1 0).toNat : Int))] [(1, vstr ((l.drop 1).drop 2))] [] (al (by omega) (al (by omega) (al (by omega) (al cut_drop_str (trivial))))) (tr_then (tr_seq (q_l [(!(decide ((sym (((l.drop 1).getD 1 0).toNat : Int)) < (sym ((l.getD 0 0).toNat : Int))))) = true → (!(decide ((sym (((l.drop 1).getD 1 0).toNat : Int)) < (sym ((l.getD 0 0).toNat : Int))))) = true, (!(decide ((sym (((l.drop 1).getD 1 0).toNat : Int)) < (sym ((l.getD 0 0).toNat : Int))))) = true → (!(decide ((sym (((l.drop 1).getD 1 0).toNat : Int)) < (sym ((l.getD 0 0).toNat : Int))))) = true, (!((decide ((sym (((l.drop 1).getD 1 0).toNat : Int)) < (sym ((l.getD 0 0).toNat : Int)))) || ((sym (((l.drop 1).getD 1 0).toNat : Int)) == 36))) = true → (!((decide ((sym (((l.drop 1).getD 1 0).toNat : Int)) < (sym ((l.getD 0 0).toNat : Int)))) || ((sym (((l.drop 1).getD 1 0).toNat : Int)) == 36))) = true, (!((decide ((sym (((l.drop 1).getD 1 0).toNat : Int)) < (sym ((l.getD 0 0).toNat : Int)))) || ((sym (((l.drop 1).getD 1 0).toNat : Int)) == 36))) = true → (!((decide ((sym (((l.drop 1).getD 1 0).toNat : Int)) < (sym ((l.getD 0 0).toNat : Int)))) || ((sym (((l.drop 1).getD 1 0).toNat : Int)) == 36))) = true, ((!((decide ((sym (((l.drop 1).getD 1 0).toNat : Int)) < (sym ((l.getD 0 0).toNat : Int)))) || ((sym (((l.drop 1).getD 1 0).toNat : Int)) == 36))) && (decide ((sym ((l.getD 0 0).toNat : Int)) < 26))) = true → ((!((decide ((sym (((l.drop 1).getD 1 0).toNat : Int)) < (sym ((l.getD 0 0).toNat : Int)))) || ((sym (((l.drop 1).getD 1 0).toNat : Int)) == 36))) && (decide ((sym ((l.getD 0 0).toNat : Int)) < 26))) = true, (!((decide ((sym (((l.drop 1).getD 1 0).toNat : Int)) < (sym ((l.getD 0 0).toNat : Int)))) || ((sym (((l.drop 1).getD 1 0).toNat : Int)) == 36))) = true → ((!((decide ((sym (((l.drop 1).getD 1 0).toNat : Int)) < (sym ((l.getD 0 0).toNat : Int)))) || ((sym (((l.drop 1).getD 1 0).toNat : Int)) == 36))) = true → (!((decide ((sym (((l.drop 1).getD 1 0).toNat : Int)) < (sym ((l.getD 0 0).toNat : Int)))) || ((sym (((l.drop 1).getD 1 0).toNat : Int)) == 36))) = true), ((!((decide ((sym (((l.drop 1).getD 1 0).toNat : Int)) < (sym ((l.getD 0 0).toNat : Int)))) || ((sym (((l.drop 1).getD 1 0).toNat : Int)) == 36))) && (decide ((sym ((l.getD 0 0).toNat : Int)) < 26))) = true → ((!((decide ((sym (((l.drop 1).getD 1 0).toNat : Int)) < (sym ((l.getD 0 0).toNat : Int)))) || ((sym (((l.drop 1).getD 1 0).toNat : Int)) == 36))) && (decide ((sym ((l.getD 0 0).toNat : Int)) < 26))) = true, (!((decide ((sym (((l.drop 1).getD 1 0).toNat : Int)) < (sym ((l.getD 0 0).toNat : Int)))) || ((sym (((l.drop 1).getD 1 0).toNat : Int)) == 36))) = true → (!((decide ((sym (((l.drop 1).getD 1 0).toNat : Int)) < (sym ((l.getD 0 0).toNat : Int)))) || ((sym (((l.drop 1).getD 1 0).toNat : Int)) == 36))) = true] [2, 3, 5, 6, 7, 65] [vint .u64 (word64 S), vstr ((cutB s 93).2.1), vstr ((l.drop 1).drop 2), vint .i64 (sym ((l.getD 0 0).toNat : Int)), vint .i64 (sym (((l.drop 1).getD 1 0).toNat : Int)), vbool (((decide ((sym (((l.drop 1).getD 1 0).toNat : Int)) < (sym ((l.getD 0 0).toNat : Int)))) || ((sym (((l.drop 1).getD 1 0).toNat : Int)) == 36)) || ((decide ((sym ((l.getD 0 0).toNat : Int)) < 26)) && (decide (26 ≤ (sym (((l.drop 1).getD 1 0).toNat : Int))))))] (al id (al id (al id (al id (al id (al (by intro _; exact id) (al id (al id (trivial))))))))) (tr_then (q_c (((decide ((sym (((l.drop 1).getD 1 0).toNat : Int)) < (sym ((l.getD 0 0).toNat : Int)))) || ((sym (((l.drop 1).getD 1 0).toNat : Int)) == 36)) || ((decide ((sym ((l.getD 0 0).toNat : Int)) < 26)) && (decide (26 ≤ (sym (((l.drop 1).getD 1 0).toNat : Int)))))) ((((sym (((l.drop 1).getD 1 0).toNat : Int)) < (sym ((l.getD 0 0).toNat : Int))) ∨ ((sym (((l.drop 1).getD 1 0).toNat : Int)) = 36)) ∨ (((sym ((l.getD 0 0).toNat : Int)) < 26) ∧ (26 ≤ (sym (((l.drop 1).getD 1 0).toNat : Int))))) (fun hc7 => ?_) (fun hc7 => ?_))))))))
         ·refine tr_seq (q_m [2, 3, 4] [vint .u64 0, vstr ([] : List UInt8), vbool false] (tr_then (q_i (d := vint .u64 0) 2 (vint .u64 (cSet (classS s))) ?_ ?_)))
          ·refine imp_eq (congrArg (fun x => D.p ((eK .u64) x)) (a₁ := 0) (a₂ := (cSet (classS s))) ?_)
           first | (rw [class_some hc1 (by rw [← hi0_0, memb_nil (by omega)])]; rfl) | ((first | (rw [class_none hc1 (by rw [← hi0_0]; exact memb_1 (by omega) hi0_1 (by assumption))]) | (rw [class_none hc1 (by rw [← hi0_0]; exact memb_2 (by omega) hi0_1 (by assumption) (by assumption) (by omega))]) | (rw [class_none hc1 (by rw [← hi0_0]; exact memb_3 (by omega) hi0_1 (by assumption) (by assumption) (by omega) (by assumption))])); rfl)
          refine q_i (d := vstr ([] : List UInt8)) 3 (vstr (cRest (classS s))) ?_ ?_
          ·refine imp_eq (congrArg (fun x => D.p (eS x)) (a₁ := ([] : List UInt8)) (a₂ := (cRest (classS s))) ?_)
           first | (rw [class_some hc1 (by rw [← hi0_0, memb_nil (by omega)])]; rfl) | ((first | (rw [class_none hc1 (by rw [← hi0_0]; exact memb_1 (by omega) hi0_1 (by assumption))]) | (rw [class_none hc1 (by rw [← hi0_0]; exact memb_2 (by omega) hi0_1 (by assumption) (by assumption) (by omega))]) | (rw [class_none hc1 (by rw [← hi0_0]; exact memb_3 (by omega) hi0_1 (by assumption) (by assumption) (by omega) (by assumption))])); rfl)
          refine q_i (d := vbool false) 4 (vbool ((classS s).isSome)) ?_ ?_
          ·refine imp_eq (congrArg (fun x => D.p (eB x)) (a₁ := false) (a₂ := ((classS s).isSome)) ?_)
           first | (rw [class_some hc1 (by rw [← hi0_0, memb_nil (by omega)])]; rfl) | ((first | (rw [class_none hc1 (by rw [← hi0_0]; exact memb_1 (by omega) hi0_1 (by assumption))]) | (rw [class_none hc1 (by rw [← hi0_0]; exact memb_2 (by omega) hi0_1 (by assumption) (by assumption) (by omega))]) | (rw [class_none hc1 (by rw [← hi0_0]; exact memb_3 (by omega) hi0_1 (by assumption) (by assumption) (by omega) (by assumption))])); rfl)
          exact q_z [vint .u64 (cSet (classS s)), vstr (cRest (classS s)), vbool ((classS s).isSome)] (fun _ _ h => h)
         ·refine tr_skip (jn_end ((sym (((l.drop 1).getD 1 0).toNat : Int)), ((l.drop 1).drop 2)) ?_ ?_)
          ·show (memb k l S = memb (k - 1) ((l.drop 1).drop 2) (range S (s0 l) ((sym (((l.drop 1).getD 1 0).toNat : Int)) + 1))) ∧ (((l.drop 1).drop 2).length < l.length) ∧ ((sym (((l.drop 1).getD 1 0).toNat : Int)) ≤ 36) ∧ (s0 l ≤ (sym (((l.drop 1).getD 1 0).toNat : Int)))
           refine ⟨?_, ?_, ?_, ?_⟩
           ·first | exact memb_4 (by omega) hi0_1 (by assumption) (by assumption) (by omega) (by assumption) | exact memb_5 (by omega) hi0_1 (by assumption) (by simpa using hc5)
           ·simp only [List.length_drop]; omega
           ·omega
           ·omega
          ·intro A_ W_ hS
           exact q_w [] [2, 3, 5, 6, 7] hS
       ·refine tr_skip (jn_end ((sym ((l.getD 0 0).toNat : Int)), (l.drop 1)) ?_ ?_)
        ·show (memb k l S = memb (k - 1) (l.drop 1) (range S (s0 l) ((sym ((l.getD 0 0).toNat : Int)) + 1))) ∧ ((l.drop 1).length < l.length) ∧ ((sym ((l.getD 0 0).toNat : Int)) ≤ 36) ∧ (s0 l ≤ (sym ((l.getD 0 0).toNat : Int)))
         refine ⟨?_, ?_, ?_, ?_⟩
         ·first | exact memb_4 (by omega) hi0_1 (by assumption) (by assumption) (by omega) (by assumption) | exact memb_5 (by omega) hi0_1 (by assumption) (by simpa using hc5)
         ·simp only [List.length_drop]; omega
         ·omega
         ·omega
        ·intro A_ W_ hS
         exact q_w [] [2, 3, 5, 6, 7] hS
    ·refine tr_exit (th_e (th_e (in_hit (tr_then (tr_seq (q_m [2, 3, 4] [vint .u64 (word64 S), vstr ((cutB s 93).2.1), vbool true] (tr_then (q_i (d := vint .u64 (word64 S)) 2 (vint .u64 (cSet (classS s))) ?_ ?_))))))))
     ·refine imp_eq (congrArg (fun x => D.p ((eK .u64) x)) (a₁ := (word64 S)) (a₂ := (cSet (classS s))) ?_)
      first | (rw [class_some hc1 (by rw [← hi0_0, memb_nil (by omega)])]; rfl) | ((first | (rw [class_none hc1 (by rw [← hi0_0]; exact memb_1 (by omega) hi0_1 (by assumption))]) | (rw [class_none hc1 (by rw [← hi0_0]; exact memb_2 (by omega) hi0_1 (by assumption) (by assumption) (by omega))]) | (rw [class_none hc1 (by rw [← hi0_0]; exact memb_3 (by omega) hi0_1 (by assumption) (by assumption) (by omega) (by assumption))])); rfl)
     refine q_i (d := vstr ((cutB s 93).2.1)) 3 (vstr (cRest (classS s))) ?_ ?_
     ·refine imp_eq (congrArg (fun x => D.p (eS x)) (a₁ := ((cutB s 93).2.1)) (a₂ := (cRest (classS s))) ?_)
      first | (rw [class_some hc1 (by rw [← hi0_0, memb_nil (by omega)])]; rfl) | ((first | (rw [class_none hc1 (by rw [← hi0_0]; exact memb_1 (by omega) hi0_1 (by assumption))]) | (rw [class_none hc1 (by rw [← hi0_0]; exact memb_2 (by omega) hi0_1 (by assumption) (by assumption) (by omega))]) | (rw [class_none hc1 (by rw [← hi0_0]; exact memb_3 (by omega) hi0_1 (by assumption) (by assumption) (by omega) (by assumption))])); rfl)
     refine q_i (d := vbool true) 4 (vbool ((classS s).isSome)) ?_ ?_
     ·refine imp_eq (congrArg (fun x => D.p (eB x)) (a₁ := true) (a₂ := ((classS s).isSome)) ?_)
      first | (rw [class_some hc1 (by rw [← hi0_0, memb_nil (by omega)])]; rfl) | ((first | (rw [class_none hc1 (by rw [← hi0_0]; exact memb_1 (by omega) hi0_1 (by assumption))]) | (rw [class_none hc1 (by rw [← hi0_0]; exact memb_2 (by omega) hi0_1 (by assumption) (by assumption) (by omega))]) | (rw [class_none hc1 (by rw [← hi0_0]; exact memb_3 (by omega) hi0_1 (by assumption) (by assumption) (by omega) (by assumption))])); rfl)
     exact q_z [vint .u64 (cSet (classS s)), vstr (cRest (classS s)), vbool ((classS s).isSome)] (fun _ _ h => h)
  ·refine tr_seq (q_s [(0 : Int) ≤ 0, 0 < (((cutB s 93).1).length : Int)] [2, 3, 5, 23] [vint .u64 0, vstr ((cutB s 93).2.1), vstr ((cutB s 93).1), vbool (((((cutB s 93).1).getD 0 0).toNat : Int) == 45)] [] ?_ ?_)
   ·refine al (by omega) (al ?_ (trivial))
    ·have := List.length_pos_iff.2 (fun h => hc1 (.inr h)); omega
   refine tr_then (q_c (((((cutB s 93).1).getD 0 0).toNat : Int) == 45) (((((cutB s 93).1).getD 0 0).toNat : Int) = 45) (fun hc8 => ?_) (fun hc8 => ?_))
   ·refine q_d [(0 : Int) ≤ 1, 1 ≤ (((cutB s 93).1).length : Int), (((cutB s 93).1).length : Int) ≤ (((cutB s 93).1).length : Int), ((((cutB s 93).1).drop 1).take ((((cutB s 93).1).length) - 1)) = (((cutB s 93).1).drop 1)] [2, 3, 5] [vint .u64 68719476736, vstr ((cutB s 93).2.1), vstr (((cutB s 93).1).drop 1)] [(1, vstr (((cutB s 93).1).drop 1))] [] (al (by omega) (al (by grind) (al (by omega) (al cut_drop_str (trivial))))) (jn_end ((((cutB s 93).1).drop 1), (upd noSet 36 true)) ?_ ?_)
    ·show (memb (cutB s 93).1.length (((cutB s 93).1).drop 1) (upd noSet 36 true) = classM (cutB s 93).1) ∧ ((((cutB s 93).1).drop 1).length ≤ (cutB s 93).1.length)
     refine ⟨?_, ?_⟩
     ·first | (unfold classM; rw [if_pos (by omega)]) | (unfold classM; rw [if_neg (by omega)])
     ·first | (simp; done) | (simp; omega) | omega
    ·intro A_ W_ hS
     replace hS := q_a (d := vint .u64 68719476736) 2 (vint .u64 (word64 (upd noSet 36 true))) (eqD_int (by first | exact word64_noSet.symm | exact word64_36.symm)) hS
     exact q_w [] [2, 3, 5] hS
   ·refine tr_skip (jn_end ((cutB s 93).1, noSet) ?_ ?_)
    ·show (memb (cutB s 93).1.length ((cutB s 93).1) noSet = classM (cutB s 93).1) ∧ (((cutB s 93).1).length ≤ (cutB s 93).1.length)
     refine ⟨?_, ?_⟩
     ·first | (unfold classM; rw [if_pos (by omega)]) | (unfold classM; rw [if_neg (by omega)])
     ·first | (simp; done) | (simp; omega) | omega
    ·intro A_ W_ hS
     replace hS := q_a (d := vint .u64 0) 2 (vint .u64 (word64 noSet)) (eqD_int (by first | exact word64_noSet.symm | exact word64_36.symm)) hS
     exact q_w [] [2, 3, 5] hS
end Go.Proofs.Ytjnjmnfacaakfaa
namespace Go.Proofs.Ytjnjmnfacaakfaa
open Go.Eng
theorem shl_word (n : Int) (h0 : 0 ≤ n) (h1 : n < 64) : IntKind.wrap .u64 (1 * 2 ^ min n.toNat (IntKind.bits .u64)) = word64 (upd noSet n.toNat true) := by
 obtain ⟨i, rfl⟩ := Int.eq_ofNat_of_zero_le h0
 have hi : i < 64 := by omega
 show IntKind.wrap .u64 (1 * 2 ^ min ((i : Int)).toNat (IntKind.bits .u64)) = word64 (upd noSet i true)
 rw [shl_u64 hi]
 unfold word64
 rw [← wordN_or noSet hi]
 have : wordN noSet 64 = 0 := by decide +kernel
 rw [this, Nat.zero_or]
def pSet (s : List UInt8) : Option ((Nat → Bool) × List UInt8) := if ((s.getD 0 0).toNat : Int) = 91 then classS (s.drop 1) else if 0 ≤ sym (s.getD 0 0).toNat then some (upd noSet (sym (s.getD 0 0).toNat).toNat true, s.drop 1) else none
def moreB (b : UInt8) : Bool := decide (0 ≤ Lib.indexByte ([63, 43, 42] : List UInt8) (b.toNat : Int).toNat.toUInt8)
def pHas (x : Option ((Nat → Bool) × List UInt8)) : Prop := x.isSome = true ∧ cRest x ≠ [] ∧ moreB ((cRest x).getD 0 0) = true
instance (x : Option ((Nat → Bool) × List UInt8)) : Decidable (pHas x) := inferInstanceAs (Decidable (_ ∧ _))
def pMore (x : Option ((Nat → Bool) × List UInt8)) : Int := if pHas x then ((cRest x).getD 0 0).toNat else 0
def pRest (x : Option ((Nat → Bool) × List UInt8)) : List UInt8 := if pHas x then (cRest x).drop 1 else cRest x
theorem pSet_1 {s : List UInt8} (h : ((s.getD 0 0).toNat : Int) = 91) : pSet s = classS (s.drop 1) := if_pos h
theorem pSet_2 {s : List UInt8} (h : ¬ ((s.getD 0 0).toNat : Int) = 91) (h1 : 0 ≤ sym (s.getD 0 0).toNat) : pSet s = some (upd noSet (sym (s.getD 0 0).toNat).toNat true, s.drop 1) := by rw [pSet, if_neg h, if_pos h1]
theorem pSet_3 {s : List UInt8} (h : ¬ ((s.getD 0 0).toNat : Int) = 91) (h1 : ¬ 0 ≤ sym (s.getD 0 0).toNat) : pSet s = none := by rw [pSet, if_neg h, if_neg h1]
theorem pHas_of {x : Option ((Nat → Bool) × List UInt8)} : ((x.isSome = true ∧ ¬ cRest x = []) ∧ 0 ≤ Lib.indexByte ([63, 43, 42] : List UInt8) (((cRest x).getD 0 0).toNat : Int).toNat.toUInt8) ↔ pHas x := by
 unfold pHas moreB
 rw [decide_eq_true_eq, and_assoc]
theorem piece_ok (s : List UInt8) (hb0 : s.length < 4611686018427387904) (hb1 : 0 < s.length) : Pure Try.prog 47 [.s s] (.tup [vint .u64 (cSet (pSet s)), vint .u8 (pMore (pSet s)), vstr (pRest (pSet s)), vbool ((pSet s).isSome)]) := by
 refine pure_of (fn := Try.f47) Try.func47 rfl rfl fun F_ W0_ => ?_
 refine tr_seq (q_t [0, 2, 3, 4, 5] [vstr s, vint .u64 0, vint .u8 0, vstr ([] : List UInt8), vbool false] [] (tr_then (tr_join (α := Unit) (fun z : Unit => [(2, none, vint .u64 (cSet (pSet s))), (3, none, vint .u8 0), (4, none, vstr (cRest (pSet s))), (5, none, vbool ((pSet s).isSome))]) (fun z : Unit => []) (fun z : Unit => True) ?_ ?_)))
 ·intro z hz
  refine tr_seq (tr_seq (q_r [((pSet s).isSome) = true → ((pSet s).isSome) = true, ((pSet s).isSome) = true → ((pSet s).isSome) = true, (((pSet s).isSome) && (!((cRest (pSet s)) == ([] : List UInt8)))) = true → (((pSet s).isSome) && (!((cRest (pSet s)) == ([] : List UInt8)))) = true, (((pSet s).isSome) && (!((cRest (pSet s)) == ([] : List UInt8)))) = true → ((0 : Int) ≤ 0), (((pSet s).isSome) && (!((cRest (pSet s)) == ([] : List UInt8)))) = true → (0 < ((cRest (pSet s)).length : Int)), (((pSet s).isSome) && (!((cRest (pSet s)) == ([] : List UInt8)))) = true → (((pSet s).isSome) && (!((cRest (pSet s)) == ([] : List UInt8)))) = true, (((pSet s).isSome) && (!((cRest (pSet s)) == ([] : List UInt8)))) = true → (Pure Try.prog 51 [.s ([63, 43, 42] : List UInt8), .v (.int .u8 (((cRest (pSet s)).getD 0 0).toNat : Int))] (vint .i64 (Lib.indexByte ([63, 43, 42] : List UInt8) (((cRest (pSet s)).getD 0 0).toNat : Int).toNat.toUInt8))), (((pSet s).isSome) && (!((cRest (pSet s)) == ([] : List UInt8)))) = true → (((pSet s).isSome) && (!((cRest (pSet s)) == ([] : List UInt8)))) = true, (((pSet s).isSome) && (!((cRest (pSet s)) == ([] : List UInt8)))) = true → (((pSet s).isSome) && (!((cRest (pSet s)) == ([] : List UInt8)))) = true] [2, 3, 4, 5, 36] [vint .u64 (cSet (pSet s)), vint .u8 0, vstr (cRest (pSet s)), vbool ((pSet s).isSome), vbool ((((pSet s).isSome) && (!((cRest (pSet s)) == ([] : List UInt8)))) && (decide (0 ≤ (Lib.indexByte ([63, 43, 42] : List UInt8) (((cRest (pSet s)).getD 0 0).toNat : Int).toNat.toUInt8))))] [] [] [(8, vint .i64 (Lib.indexByte ([63, 43, 42] : List UInt8) (((cRest (pSet s)).getD 0 0).toNat : Int).toNat.toUInt8))] ?_ ?_))
  ·refine al id (al id (al id (al ?_ (al ?_ (al id (al (by intro _; exact indexByte_ok _ _) (al id (al id (trivial)))))))))
   ·first | omega | (simp; done) | (intro hg; simp at hg; have := List.length_pos_iff.2 hg.2; omega) | (intro hg; simp at hg; omega) | (simp_all; done) | grind
   ·first | omega | (simp; done) | (intro hg; simp at hg; have := List.length_pos_iff.2 hg.2; omega) | (intro hg; simp at hg; omega) | (simp_all; done) | grind
  refine tr_then (q_c ((((pSet s).isSome) && (!((cRest (pSet s)) == ([] : List UInt8)))) && (decide (0 ≤ (Lib.indexByte ([63, 43, 42] : List UInt8) (((cRest (pSet s)).getD 0 0).toNat : Int).toNat.toUInt8)))) (((((pSet s).isSome) = true) ∧ (¬ (cRest (pSet s)) = ([] : List UInt8))) ∧ (0 ≤ (Lib.indexByte ([63, 43, 42] : List UInt8) (((cRest (pSet s)).getD 0 0).toNat : Int).toNat.toUInt8))) (fun hc1 => ?_) (fun hc1 => ?_))
  ·refine q_d [(0 : Int) ≤ 0, 0 < ((cRest (pSet s)).length : Int), (0 : Int) ≤ 1, 1 ≤ ((cRest (pSet s)).length : Int), ((cRest (pSet s)).length : Int) ≤ ((cRest (pSet s)).length : Int), (((cRest (pSet s)).drop 1).take (((cRest (pSet s)).length) - 1)) = ((cRest (pSet s)).drop 1)] [2, 3, 4, 5] [vint .u64 (cSet (pSet s)), vint .u8 (((cRest (pSet s)).getD 0 0).toNat : Int), vstr ((cRest (pSet s)).drop 1), vbool ((pSet s).isSome)] [(3, vstr ((cRest (pSet s)).drop 1))] [] ?_ ?_
   ·refine al ?_ (al ?_ (al ?_ (al ?_ (al ?_ (al cut_drop_str (trivial))))))
    ·first | omega | (simp; done) | (intro hg; simp at hg; have := List.length_pos_iff.2 hg.2; omega) | (intro hg; simp at hg; omega) | (simp_all; done) | grind
    ·first | omega | (simp; done) | (intro hg; simp at hg; have := List.length_pos_iff.2 hg.2; omega) | (intro hg; simp at hg; omega) | (simp_all; done) | grind
    ·first | omega | (simp; done) | (intro hg; simp at hg; have := List.length_pos_iff.2 hg.2; omega) | (intro hg; simp at hg; omega) | (simp_all; done) | grind
    ·first | omega | (simp; done) | (intro hg; simp at hg; have := List.length_pos_iff.2 hg.2; omega) | (intro hg; simp at hg; omega) | (simp_all; done) | grind
    ·first | omega | (simp; done) | (intro hg; simp at hg; have := List.length_pos_iff.2 hg.2; omega) | (intro hg; simp at hg; omega) | (simp_all; done) | grind
   refine tr_then (tr_seq (q_m [2, 3, 4, 5] [vint .u64 (cSet (pSet s)), vint .u8 (((cRest (pSet s)).getD 0 0).toNat : Int), vstr ((cRest (pSet s)).drop 1), vbool ((pSet s).isSome)] (tr_then (q_i (d := vint .u8 (((cRest (pSet s)).getD 0 0).toNat : Int)) 3 (vint .u8 (pMore (pSet s))) ?_ ?_))))
   ·refine imp_eq (congrArg (fun x => D.p ((eK .u8) x)) (a₁ := (((cRest (pSet s)).getD 0 0).toNat : Int)) (a₂ := (pMore (pSet s))) ?_)
    first | (rw [pMore, if_pos (pHas_of.1 hc1)]) | (rw [pRest, if_pos (pHas_of.1 hc1)]) | (rw [pMore, if_neg (fun h => hc1 (pHas_of.2 h))]) | (rw [pRest, if_neg (fun h => hc1 (pHas_of.2 h))]) | rfl
   refine q_i (d := vstr ((cRest (pSet s)).drop 1)) 4 (vstr (pRest (pSet s))) ?_ ?_
   ·refine imp_eq (congrArg (fun x => D.p (eS x)) (a₁ := ((cRest (pSet s)).drop 1)) (a₂ := (pRest (pSet s))) ?_)
    first | (rw [pMore, if_pos (pHas_of.1 hc1)]) | (rw [pRest, if_pos (pHas_of.1 hc1)]) | (rw [pMore, if_neg (fun h => hc1 (pHas_of.2 h))]) | (rw [pRest, if_neg (fun h => hc1 (pHas_of.2 h))]) | rfl
   exact q_z [vint .u64 (cSet (pSet s)), vint .u8 (pMore (pSet s)), vstr (pRest (pSet s)), vbool ((pSet s).isSome)] (fun _ _ h => h)
  ·refine tr_skip (tr_then (tr_seq (q_m [2, 3, 4, 5] [vint .u64 (cSet (pSet s)), vint .u8 0, vstr (cRest (pSet s)), vbool ((pSet s).isSome)] (tr_then (q_i (d := vint .u8 0) 3 (vint .u8 (pMore (pSet s))) ?_ ?_)))))
   ·refine imp_eq (congrArg (fun x => D.p ((eK .u8) x)) (a₁ := 0) (a₂ := (pMore (pSet s))) ?_)
    first | (rw [pMore, if_pos (pHas_of.1 hc1)]) | (rw [pRest, if_pos (pHas_of.1 hc1)]) | (rw [pMore, if_neg (fun h => hc1 (pHas_of.2 h))]) | (rw [pRest, if_neg (fun h => hc1 (pHas_of.2 h))]) | rfl
   refine q_i (d := vstr (cRest (pSet s))) 4 (vstr (pRest (pSet s))) ?_ ?_
   ·refine imp_eq (congrArg (fun x => D.p (eS x)) (a₁ := (cRest (pSet s))) (a₂ := (pRest (pSet s))) ?_)
    first | (rw [pMore, if_pos (pHas_of.1 hc1)]) | (rw [pRest, if_pos (pHas_of.1 hc1)]) | (rw [pMore, if_neg (fun h => hc1 (pHas_of.2 h))]) | (rw [pRest, if_neg (fun h => hc1 (pHas_of.2 h))]) | rfl
   exact q_z [vint .u64 (cSet (pSet s)), vint .u8 (pMore (pSet s)), vstr (pRest (pSet s)), vbool ((pSet s).isSome)] (fun _ _ h => h)
 ·refine tr_seq (q_s [(0 : Int) ≤ 0, 0 < (s.length : Int)] [0, 2, 3, 4, 5, 9] [vstr s, vint .u64 0, vint .u8 0, vstr ([] : List UInt8), vbool false, vbool (((s.getD 0 0).toNat : Int) == 91)] [] ?_ ?_)
  ·refine al ?_ (al ?_ (trivial))
   ·first | omega | (simp; done) | (intro hg; simp at hg; have := List.length_pos_iff.2 hg.2; omega) | (intro hg; simp at hg; omega) | (simp_all; done) | grind
   ·first | omega | (simp; done) | (intro hg; simp at hg; have := List.length_pos_iff.2 hg.2; omega) | (intro hg; simp at hg; omega) | (simp_all; done) | grind
  refine tr_then (q_c (((s.getD 0 0).toNat : Int) == 91) (((s.getD 0 0).toNat : Int) = 91) (fun hc2 => ?_) (fun hc2 => ?_))
  ·refine q_k [(0 : Int) ≤ 1, 1 ≤ (s.length : Int), (s.length : Int) ≤ (s.length : Int), ((s.drop 1).take (s.length - 1)) = (s.drop 1), Pure Try.prog 55 [.s (s.drop 1)] (.tup [vint .u64 (cSet (classS (s.drop 1))), vstr (cRest (classS (s.drop 1))), vbool ((classS (s.drop 1)).isSome)])] [2, 3, 4, 5] [vint .u64 (cSet (classS (s.drop 1))), vint .u8 0, vstr (cRest (classS (s.drop 1))), vbool ((classS (s.drop 1)).isSome)] [(1, vstr (s.drop 1))] [(2, .tup [vint .u64 (cSet (classS (s.drop 1))), vstr (cRest (classS (s.drop 1))), vbool ((classS (s.drop 1)).isSome)])] ?_ ?_
   ·refine al ?_ (al ?_ (al ?_ (al cut_drop_str (al (class_ok _ (by first | (simp_all; omega) | (simp; omega))) (trivial)))))
    ·first | omega | (simp; done) | (intro hg; simp at hg; have := List.length_pos_iff.2 hg.2; omega) | (intro hg; simp at hg; omega) | (simp_all; done) | grind
    ·first | omega | (simp; done) | (intro hg; simp at hg; have := List.length_pos_iff.2 hg.2; omega) | (intro hg; simp at hg; omega) | (simp_all; done) | grind
    ·first | omega | (simp; done) | (intro hg; simp at hg; have := List.length_pos_iff.2 hg.2; omega) | (intro hg; simp at hg; omega) | (simp_all; done) | grind
   refine jn_end () ?_ ?_
   ·exact trivial
   ·intro A_ W_ hS
    replace hS := q_a (d := vint .u64 (cSet (classS (s.drop 1)))) 2 (vint .u64 (cSet (pSet s))) (eqD_int (by first | (rw [pSet_1 hc2]; done) | (rw [pSet_2 hc2 hc3]; exact shl_word _ hc3 (by have := sym_le ((s.getD 0 0).toNat : Int); omega)) | (rw [pSet_3 hc2 hc3]; rfl))) hS
    replace hS := q_a (d := vstr (cRest (classS (s.drop 1)))) 4 (vstr (cRest (pSet s))) (eqD_str (by first | (rw [pSet_1 hc2]; done) | (rw [pSet_2 hc2 hc3]; rfl) | (rw [pSet_3 hc2 hc3]; rfl))) hS
    replace hS := q_a (d := vbool ((classS (s.drop 1)).isSome)) 5 (vbool ((pSet s).isSome)) (eqD_bool (by first | (rw [pSet_1 hc2]; done) | (rw [pSet_2 hc2 hc3]; rfl) | (rw [pSet_3 hc2 hc3]; rfl))) hS
    exact q_w [] [2, 3, 4, 5] hS
  ·refine tr_seq (q_k [(0 : Int) ≤ 0, 0 < (s.length : Int), Pure Try.prog 42 [.v (.int .u8 ((s.getD 0 0).toNat : Int))] (vint .i64 (sym ((s.getD 0 0).toNat : Int)))] [0, 2, 3, 4, 5, 6] [vstr s, vint .u64 0, vint .u8 0, vstr ([] : List UInt8), vbool false, vint .i64 (sym ((s.getD 0 0).toNat : Int))] [] [(2, vint .i64 (sym ((s.getD 0 0).toNat : Int)))] ?_ ?_)
   ·refine al ?_ (al ?_ (al ?_ (trivial)))
    ·first | omega | (simp; done) | (intro hg; simp at hg; have := List.length_pos_iff.2 hg.2; omega) | (intro hg; simp at hg; omega) | (simp_all; done) | grind
    ·first | omega | (simp; done) | (intro hg; simp at hg; have := List.length_pos_iff.2 hg.2; omega) | (intro hg; simp at hg; omega) | (simp_all; done) | grind
    ·first | exact namesSymbolB_ok _ | exact namesSymbol_ok _ (by omega) (by omega)
   refine tr_then (tr_seq (q_m [0, 2, 3, 4, 5, 6, 21] [vstr s, vint .u64 0, vint .u8 0, vstr ([] : List UInt8), vbool false, vint .i64 (sym ((s.getD 0 0).toNat : Int)), vbool (decide (0 ≤ (sym ((s.getD 0 0).toNat : Int))))] (tr_then (q_e (0 ≤ (sym ((s.getD 0 0).toNat : Int))) (fun hc3 => ?_) (fun hc3 => ?_)))))
   ·refine q_d [(0 : Int) ≤ (sym ((s.getD 0 0).toNat : Int)), (0 : Int) ≤ 1, 1 ≤ (s.length : Int), (s.length : Int) ≤ (s.length : Int), ((s.drop 1).take (s.length - 1)) = (s.drop 1)] [2, 3, 4, 5] [vint .u64 (IntKind.wrap .u64 ((1 : Int) * 2 ^ min (sym ((s.getD 0 0).toNat : Int)).toNat (IntKind.bits .u64))), vint .u8 0, vstr (s.drop 1), vbool true] [(3, vstr (s.drop 1))] [] ?_ ?_
    ·refine al ?_ (al ?_ (al ?_ (al ?_ (al cut_drop_str (trivial)))))
     ·first | omega | (simp; done) | (intro hg; simp at hg; have := List.length_pos_iff.2 hg.2; omega) | (intro hg; simp at hg; omega) | (simp_all; done) | grind
     ·first | omega | (simp; done) | (intro hg; simp at hg; have := List.length_pos_iff.2 hg.2; omega) | (intro hg; simp at hg; omega) | (simp_all; done) | grind
     ·first | omega | (simp; done) | (intro hg; simp at hg; have := List.length_pos_iff.2 hg.2; omega) | (intro hg; simp at hg; omega) | (simp_all; done) | grind
     ·first | omega | (simp; done) | (intro hg; simp at hg; have := List.length_pos_iff.2 hg.2; omega) | (intro hg; simp at hg; omega) | (simp_all; done) | grind
    refine jn_end () ?_ ?_
    ·exact trivial
    ·intro A_ W_ hS
     replace hS := q_a (d := vint .u64 (IntKind.wrap .u64 ((1 : Int) * 2 ^ min (sym ((s.getD 0 0).toNat : Int)).toNat (IntKind.bits .u64)))) 2 (vint .u64 (cSet (pSet s))) (eqD_int (by first | (rw [pSet_1 hc2]; done) | (rw [pSet_2 hc2 hc3]; exact shl_word _ hc3 (by have := sym_le ((s.getD 0 0).toNat : Int); omega)) | (rw [pSet_3 hc2 hc3]; rfl))) hS
     replace hS := q_a (d := vstr (s.drop 1)) 4 (vstr (cRest (pSet s))) (eqD_str (by first | (rw [pSet_1 hc2]; done) | (rw [pSet_2 hc2 hc3]; rfl) | (rw [pSet_3 hc2 hc3]; rfl))) hS
     replace hS := q_a (d := vbool true) 5 (vbool ((pSet s).isSome)) (eqD_bool (by first | (rw [pSet_1 hc2]; done) | (rw [pSet_2 hc2 hc3]; rfl) | (rw [pSet_3 hc2 hc3]; rfl))) hS
     exact q_w [] [2, 3, 4, 5] hS
   ·refine tr_skip (jn_end () ?_ ?_)
    ·exact trivial
    ·intro A_ W_ hS
     replace hS := q_a (d := vint .u64 0) 2 (vint .u64 (cSet (pSet s))) (eqD_int (by first | (rw [pSet_1 hc2]; done) | (rw [pSet_2 hc2 hc3]; exact shl_word _ hc3 (by have := sym_le ((s.getD 0 0).toNat : Int); omega)) | (rw [pSet_3 hc2 hc3]; rfl))) hS
     replace hS := q_a (d := vstr ([] : List UInt8)) 4 (vstr (cRest (pSet s))) (eqD_str (by first | (rw [pSet_1 hc2]; done) | (rw [pSet_2 hc2 hc3]; rfl) | (rw [pSet_3 hc2 hc3]; rfl))) hS
     replace hS := q_a (d := vbool false) 5 (vbool ((pSet s).isSome)) (eqD_bool (by first | (rw [pSet_1 hc2]; done) | (rw [pSet_2 hc2 hc3]; rfl) | (rw [pSet_3 hc2 hc3]; rfl))) hS
     exact q_w [] [2, 3, 4, 5] hS
end Go.Proofs.Ytjnjmnfacaakfaa
namespace Go.Proofs.Ytjnjmnfacaakfaa
open Go.Eng
def endP : Place := { fEnd := true }
def parseM : Nat → List Place → List Int → List UInt8 → Option (List Place × List Int)
 | 0, _, _, _ => none
 | n + 1, ps, st, r => if r = [] ∨ ((r.getD 0 0).toNat : Int) = 124 then
   (if (ps.length : Int) = st.getD ((st.length : Int) - 1).toNat 0 then none else
    if r = [] then some (ps ++ [endP], st) else parseM n (ps ++ [endP]) (st ++ [(((ps ++ [endP]).length : Nat) : Int)]) (r.drop 1))
  else if (pSet r).isSome = true then
   (if pMore (pSet r) = 43 then parseM n (ps ++ [({ fSet := cSet (pSet r) } : Place)] ++ [({ fSet := cSet (pSet r), fMore := 42 } : Place)]) st (pRest (pSet r))
    else parseM n (ps ++ [({ fSet := cSet (pSet r), fMore := pMore (pSet r) } : Place)]) st (pRest (pSet r)))
  else none
def parseS (s : List UInt8) : Option (List Place × List Int) := parseM (s.length + 1) [] [0] s
def plOf (x : Option (List Place × List Int)) : List Place := match x with
 | some y => y.1
 | none => []
def stOf (x : Option (List Place × List Int)) : List Int := match x with
 | some y => y.2
 | none => []
theorem cut2_le (s : List UInt8) (c : UInt8) : (cutB s c).2.1.length ≤ s.length := by
 unfold cutB
 split <;> simp
theorem class_le {s : List UInt8} : (cRest (classS s)).length ≤ s.length := by
 unfold classS
 split
 ·simp [cRest]
 ·cases classM (cutB s 93).1 with
  | none => simp [cRest]
  | some S => exact cut2_le s 93
theorem pSet_le {s : List UInt8} (h : 0 < s.length) : (cRest (pSet s)).length + 1 ≤ s.length := by
 unfold pSet
 split
 ·have := class_le (s := s.drop 1)
  rw [List.length_drop] at this
  omega
 ·split
  ·simp [cRest]; omega
  ·simp [cRest]; omega
theorem pRest_le {s : List UInt8} (h : 0 < s.length) : (pRest (pSet s)).length + 1 ≤ s.length := by
 have := pSet_le h
 unfold pRest
 split
 ·rw [List.length_drop]; omega
 ·exact this
theorem pRest_le2 {s : List UInt8} (h : 0 < s.length) (h1 : pMore (pSet s) = 43) : (pRest (pSet s)).length + 2 ≤ s.length := by
 have := pSet_le h
 unfold pMore at h1
 split at h1
 ·rename_i hp
  have := List.length_pos_iff.2 hp.2.1
  unfold pRest
  rw [if_pos hp, List.length_drop]; omega
 ·omega
theorem parseM_1 {k : Nat} {ps : List Place} {st : List Int} {r : List UInt8} (hk : 0 < k) (h : r = [] ∨ ((r.getD 0 0).toNat : Int) = 124) (h1 : (ps.length : Int) = st.getD ((st.length : Int) - 1).toNat 0) : parseM k ps st r = none := by
 obtain ⟨k, rfl⟩ : ∃ j, k = j + 1 := ⟨k - 1, by omega⟩
 rw [parseM, if_pos h, if_pos h1]
theorem parseM_2 {k : Nat} {ps : List Place} {st : List Int} {r : List UInt8} (hk : 0 < k) (h : r = [] ∨ ((r.getD 0 0).toNat : Int) = 124) (h1 : ¬ (ps.length : Int) = st.getD ((st.length : Int) - 1).toNat 0) (h2 : r = []) : parseM k ps st r = some (ps ++ [endP], st) := by
 obtain ⟨k, rfl⟩ : ∃ j, k = j + 1 := ⟨k - 1, by omega⟩
 rw [parseM, if_pos h, if_neg h1, if_pos h2]
theorem parseM_3 {k : Nat} {ps : List Place} {st : List Int} {r : List UInt8} (hk : 0 < k) (h : r = [] ∨ ((r.getD 0 0).toNat : Int) = 124) (h1 : ¬ (ps.length : Int) = st.getD ((st.length : Int) - 1).toNat 0) (h2 : ¬ r = []) : parseM k ps st r = parseM (k - 1) (ps ++ [endP]) (st ++ [(((ps ++ [endP]).length : Nat) : Int)]) (r.drop 1) := by
 obtain ⟨k, rfl⟩ : ∃ j, k = j + 1 := ⟨k - 1, by omega⟩
 rw [parseM, if_pos h, if_neg h1, if_neg h2]; rfl
theorem parseM_4 {k : Nat} {ps : List Place} {st : List Int} {r : List UInt8} (hk : 0 < k) (h : ¬ (r = [] ∨ ((r.getD 0 0).toNat : Int) = 124)) (h1 : (pSet r).isSome = false) : parseM k ps st r = none := by
 obtain ⟨k, rfl⟩ : ∃ j, k = j + 1 := ⟨k - 1, by omega⟩
 rw [parseM, if_neg h, if_neg (by rw [h1]; simp)]
theorem parseM_5 {k : Nat} {ps : List Place} {st : List Int} {r : List UInt8} (hk : 0 < k) (h : ¬ (r = [] ∨ ((r.getD 0 0).toNat : Int) = 124)) (h1 : ¬ (pSet r).isSome = false) (h2 : pMore (pSet r) = 43) : parseM k ps st r = parseM (k - 1) (ps ++ [({ fSet := cSet (pSet r) } : Place)] ++ [({ fSet := cSet (pSet r), fMore := 42 } : Place)]) st (pRest (pSet r)) := by
 obtain ⟨k, rfl⟩ : ∃ j, k = j + 1 := ⟨k - 1, by omega⟩
 rw [parseM, if_neg h, if_pos (eq_true_of_ne_false h1), if_pos h2]; rfl
theorem parseM_6 {k : Nat} {ps : List Place} {st : List Int} {r : List UInt8} (hk : 0 < k) (h : ¬ (r = [] ∨ ((r.getD 0 0).toNat : Int) = 124)) (h1 : ¬ (pSet r).isSome = false) (h2 : ¬ pMore (pSet r) = 43) : parseM k ps st r = parseM (k - 1) (ps ++ [({ fSet := cSet (pSet r), fMore := pMore (pSet r) } : Place)]) st (pRest (pSet r)) := by
 obtain ⟨k, rfl⟩ : ∃ j, k = j + 1 := ⟨k - 1, by omega⟩
 rw [parseM, if_neg h, if_pos (eq_true_of_ne_false h1), if_neg h2]; rfl
theorem parse_ok (s : List UInt8) (hb0 : s.length ≤ 64) : Pure Try.prog 31 [.s s] (.tup [.p ((eL ePlace 3 dPlace) (plOf (parseS s))), .p ((eL eI 1 0) (stOf (parseS s))), vbool ((parseS s).isSome)]) := by
 refine pure_of (fn := Try.f31) Try.func31 rfl rfl fun F_ W0_ => ?_
 refine tr_seq (q_t [0, 2] [vstr s, .p (.v (.slice none 0 0))] [] (tr_then (tr_seq (q_t [0, 2, 3] [vstr s, .p (.v (.slice none 0 0)), .own 0] [.arr 3 1 1 (fun j => ([vint .i64 0] : List D).getD j default)] (nm_pre (E' := [(0, none, vstr s), (2, none, .p (.v (.slice none 0 0))), (3, none, .own 0)]) (H' := [oL 3 eI 1 0 ([0])]) (fun _ _ => sl_arr (n := 1) (n' := ([0]).length) (f := fun j => ([vint .i64 0] : List D).getD j default) 0 (fun i => .p (eI (([0]).getD i 0))) (by kernel_rfl) (rfl) (by exact lit_getD (e := eI) (d := 0) (l := [0]))) (tr_then (tr_seq (q_m [2, 3, 5] [.p (.v (.slice none 0 0)), .own 0, vstr s] (tr_then (tr_block (tr_loop (α := Nat × (List Place) × (List Int) × (List UInt8)) (fun z : Nat × (List Place) × (List Int) × (List UInt8) => (fun (k : Nat) (ps : List Place) (st : List Int) (r : List UInt8) => [(2, none, .own 1), (3, none, .own 0), (5, none, vstr r)]) z.1 z.2.1 z.2.2.1 z.2.2.2) (fun z : Nat × (List Place) × (List Int) × (List UInt8) => (fun (k : Nat) (ps : List Place) (st : List Int) (r : List UInt8) => [oL 3 eI 1 0 st, oL 73 ePlace 3 dPlace ps]) z.1 z.2.1 z.2.2.1 z.2.2.2) (fun z : Nat × (List Place) × (List Int) × (List UInt8) => (fun (k : Nat) (ps : List Place) (st : List Int) (r : List UInt8) => (parseM k ps st r = parseS s) ∧ (r.length < k) ∧ (ps.length + r.length ≤ s.length) ∧ (0 < st.length) ∧ (st.length + r.length ≤ s.length + 1)) z.1 z.2.1 z.2.2.1 z.2.2.2) (fun z : Nat × (List Place) × (List Int) × (List UInt8) => (fun (k : Nat) (ps : List Place) (st : List Int) (r : List UInt8) => r.length) z.1 z.2.1 z.2.2.1 z.2.2.2) ((s.length + 1), ([] : List Place), [0], s) ?_ ?_ ?_)))))))))))
 ·show (parseM (s.length + 1) ([] : List Place) ([0]) s = parseS s) ∧ (s.length < (s.length + 1)) ∧ (([] : List Place).length + s.length ≤ s.length) ∧ (0 < ([0]).length) ∧ (([0]).length + s.length ≤ s.length + 1)
  refine ⟨?_, ?_, ?_, ?_, ?_⟩
  ·rfl
  ·omega
  ·(simp; done)
  ·(simp; done)
  ·(simp_all; omega)
 ·intro A_ W_ hS
  replace hS := sl_nil 2 73 3 (fun i => .p (ePlace (([] : List Place).getD i dPlace))) (by kernel_rfl) hS
  exact q_v [∀ i, i < ([0]).length → D.p (eI (([0]).getD i 0)) = .p (eI (([0]).getD i 0)), ∀ i, i < ([] : List Place).length → D.p (ePlace (([] : List Place).getD i dPlace)) = .p (ePlace (([] : List Place).getD i dPlace))] [0, 1] [2, 3, 5] (al (fun _ _ => rfl) (al (fun _ _ => rfl) trivial)) hS
 ·intro z hz
  obtain ⟨k, ps, st, r⟩ := z
  have hz : (parseM k ps st r = parseS s) ∧ (r.length < k) ∧ (ps.length + r.length ≤ s.length) ∧ (0 < st.length) ∧ (st.length + r.length ≤ s.length + 1) := hz
  obtain ⟨hi0_0, hi0_1, hi0_2, hi0_3, hi0_4⟩ := hz
  have hr := pRest_le (s := r)
  have hr2 := pRest_le2 (s := r)
  have hl : r = [] ∨ 0 < r.length := by cases r <;> simp
  refine tr_block (tr_seq (q_r [(IntKind.wrap .i64 ((st.length : Int) - 1)) = ((st.length : Int) - 1), (0 : Int) ≤ ((st.length : Int) - 1), ((st.length : Int) - 1) < (st.length : Int), ((st.length : Int) - 1).toNat < st.length] [2, 3, 5, 6] [.own 1, .own 0, vstr r, vbool ((ps.length : Int) == (st.getD (((st.length : Int) - 1).toNat) 0))] [oL 3 eI 1 0 st, oL 73 ePlace 3 dPlace ps] [(5, vint .i64 ((st.length : Int) - 1))] [] (al (wr64 (by omega) (by omega) (by omega)) (al (by omega) (al (by omega) (al (by omega) (trivial))))) (tr_then (tr_seq (tr_seq (q_l [(!(r == ([] : List UInt8))) = true → (!(r == ([] : List UInt8))) = true, (!(r == ([] : List UInt8))) = true → ((0 : Int) ≤ 0), (!(r == ([] : List UInt8))) = true → (0 < (r.length : Int)), (!(r == ([] : List UInt8))) = true → (!(r == ([] : List UInt8))) = true, (!(r == ([] : List UInt8))) = true → (!(r == ([] : List UInt8))) = true] [2, 3, 5, 6, 28] [.own 1, .own 0, vstr r, vbool ((ps.length : Int) == (st.getD (((st.length : Int) - 1).toNat) 0)), vbool ((r == ([] : List UInt8)) || (((r.getD 0 0).toNat : Int) == 124))] (al id (al (by omega) (al (by intro hg; simp at hg; have := List.length_pos_iff.2 hg; omega) (al id (al id (trivial)))))) (tr_then (q_c ((r == ([] : List UInt8)) || (((r.getD 0 0).toNat : Int) == 124)) ((r = ([] : List UInt8)) ∨ (((r.getD 0 0).toNat : Int) = 124)) (fun hc1 => ?_) (fun hc1 => ?_)))))))))
  ·refine tr_seq (tr_seq (q_m [2, 3, 5, 29] [.own 1, .own 0, vstr r, vbool ((ps.length : Int) == (st.getD (((st.length : Int) - 1).toNat) 0))] (tr_then (q_c ((ps.length : Int) == (st.getD (((st.length : Int) - 1).toNat) 0)) ((ps.length : Int) = (st.getD (((st.length : Int) - 1).toNat) 0)) (fun hc2 => ?_) (fun hc2 => ?_)))))
   ·refine tr_seq (q_m [2, 3, 4] [.p (.v (.slice none 0 0)), .p (.v (.slice none 0 0)), vbool false] (tr_then (tr_pre (E' := [(2, none, .p (.v (.slice none 0 0))), (3, none, .p (.v (.slice none 0 0))), (4, none, vbool false)]) (H' := []) (fun _ _ h => q_w [] [2, 3, 4] h) (q_i (d := .p (.v (.slice none 0 0))) 2 (.p ((eL ePlace 3 dPlace) (plOf (parseS s)))) ?_ ?_))))
    ·refine imp_nil (plOf (parseS s)) ?_
     rw [← hi0_0]; first | (rw [parseM_1 (by omega) hc1 hc2]; rfl) | (rw [parseM_2 (by omega) hc1 hc2 hc3]; rfl) | (rw [parseM_4 (by omega) hc1 hc4]; rfl)
    refine q_i (d := .p (.v (.slice none 0 0))) 3 (.p ((eL eI 1 0) (stOf (parseS s)))) ?_ ?_
    ·refine imp_nil (stOf (parseS s)) ?_
     rw [← hi0_0]; first | (rw [parseM_1 (by omega) hc1 hc2]; rfl) | (rw [parseM_2 (by omega) hc1 hc2 hc3]; rfl) | (rw [parseM_4 (by omega) hc1 hc4]; rfl)
    refine q_i (d := vbool false) 4 (vbool ((parseS s).isSome)) ?_ ?_
    ·refine imp_eq (congrArg (fun x => D.p (eB x)) (a₁ := false) (a₂ := ((parseS s).isSome)) ?_)
     rw [← hi0_0]; first | (rw [parseM_1 (by omega) hc1 hc2]; rfl) | (rw [parseM_2 (by omega) hc1 hc2 hc3]; rfl) | (rw [parseM_4 (by omega) hc1 hc4]; rfl)
    exact q_z [.p ((eL ePlace 3 dPlace) (plOf (parseS s))), .p ((eL eI 1 0) (stOf (parseS s))), vbool ((parseS s).isSome)] (fun _ _ h => h)
   ·refine tr_skip (tr_then (tr_seq (q_r [∀ j, j < 1 → ([.agg [.v (.int .u64 0), .v (.int .u8 0), .v (.bool true)]] : List PV).getD j default = (fun i => ePlace (([({ fSet := 0, fMore := 0, fEnd := true } : Place)]).getD i dPlace)) j, (ps.length + (([({ fSet := 0, fMore := 0, fEnd := true } : Place)]).length)) * 16 ≤ 140737488355328] [2, 3, 5] [.own 2, .own 0, vstr r] [oL 3 eI 1 0 st, .dead, .arr 73 3 (ps.length + ([({ fSet := 0, fMore := 0, fEnd := true } : Place)]).length) (appF (fun i => .p (ePlace (ps.getD i dPlace))) ps.length (fun j => .p (ePlace (([({ fSet := 0, fMore := 0, fEnd := true } : Place)]).getD j dPlace))))] [] [(2, .p ((eL ePlace 3 dPlace) ([({ fSet := 0, fMore := 0, fEnd := true } : Place)])))] (al (lit_pv (e := ePlace) (d := dPlace) (l := [({ fSet := 0, fMore := 0, fEnd := true } : Place)])) (al (by simp_all; omega) (trivial))) (nm_pre (E' := [(2, none, .own 2), (3, none, .own 0), (5, none, vstr r)]) (H' := [oL 3 eI 1 0 st, .dead, oL 73 ePlace 3 dPlace (ps ++ ([({ fSet := 0, fMore := 0, fEnd := true } : Place)]))]) (fun _ _ => sl_arr (n := (ps.length + ([({ fSet := 0, fMore := 0, fEnd := true } : Place)]).length)) (n' := (ps ++ ([({ fSet := 0, fMore := 0, fEnd := true } : Place)])).length) (f := appF (fun i => .p (ePlace (ps.getD i dPlace))) ps.length (fun j => .p (ePlace (([({ fSet := 0, fMore := 0, fEnd := true } : Place)]).getD j dPlace)))) 2 (fun i => .p (ePlace ((ps ++ ([({ fSet := 0, fMore := 0, fEnd := true } : Place)])).getD i dPlace))) (by kernel_rfl) (by simp) (by first | exact appN | exact nilN | exact app0 | exact nilV _)) (tr_then (tr_seq (tr_seq (q_m [2, 3, 5, 35] [.own 2, .own 0, vstr r, vbool (r == ([] : List UInt8))] (tr_then (q_c (r == ([] : List UInt8)) (r = ([] : List UInt8)) (fun hc3 => ?_) (fun hc3 => ?_)))))))))))
    ·refine tr_seq (q_m [2, 3, 4] [.own 2, .own 0, vbool true] (tr_then (tr_pre (E' := [(2, none, .own 1), (3, none, .own 0), (4, none, vbool true)]) (H' := [oL 3 eI 1 0 st, oL 73 ePlace 3 dPlace (ps ++ ([({ fSet := 0, fMore := 0, fEnd := true } : Place)]))]) (fun A_ W_ hS => sl_weak (vc := [∀ i, i < st.length → D.p (eI (st.getD i 0)) = .p (eI (st.getD i 0)), ∀ i, i < (ps ++ ([({ fSet := 0, fMore := 0, fEnd := true } : Place)])).length → D.p (ePlace ((ps ++ ([({ fSet := 0, fMore := 0, fEnd := true } : Place)])).getD i dPlace)) = .p (ePlace ((ps ++ ([({ fSet := 0, fMore := 0, fEnd := true } : Place)])).getD i dPlace))]) [0, 2] [2, 3, 4] (by kernel_rfl) (al (fun _ _ => rfl) (al (fun _ _ => rfl) trivial)) hS) (tr_pre (E' := [(2, none, .own 1), (3, none, .p ((eL eI 1 0) st)), (4, none, vbool true)]) (H' := [.dead, oL 73 ePlace 3 dPlace (ps ++ ([({ fSet := 0, fMore := 0, fEnd := true } : Place)]))]) (fun _ _ => sl_freeze (vc := [∀ j, j < st.length → D.p (eI (st.getD j 0)) = .p ((fun j => eI (st.getD j 0)) j), ∀ i, i < (ps ++ ([({ fSet := 0, fMore := 0, fEnd := true } : Place)])).length → D.p (ePlace ((ps ++ ([({ fSet := 0, fMore := 0, fEnd := true } : Place)])).getD i dPlace)) = .p (ePlace ((ps ++ ([({ fSet := 0, fMore := 0, fEnd := true } : Place)])).getD i dPlace))]) 0 (fun j => eI (st.getD j 0)) (by kernel_rfl) (al (fun _ _ => rfl) (al (fun _ _ => rfl) trivial))) (tr_pre (E' := [(2, none, .p ((eL ePlace 3 dPlace) (ps ++ ([({ fSet := 0, fMore := 0, fEnd := true } : Place)])))), (3, none, .p ((eL eI 1 0) st)), (4, none, vbool true)]) (H' := [.dead, .dead]) (fun _ _ => sl_freeze (vc := [∀ j, j < (ps ++ ([({ fSet := 0, fMore := 0, fEnd := true } : Place)])).length → D.p (ePlace ((ps ++ ([({ fSet := 0, fMore := 0, fEnd := true } : Place)])).getD j dPlace)) = .p ((fun j => ePlace ((ps ++ ([({ fSet := 0, fMore := 0, fEnd := true } : Place)])).getD j dPlace)) j)]) 1 (fun j => ePlace ((ps ++ ([({ fSet := 0, fMore := 0, fEnd := true } : Place)])).getD j dPlace)) (by kernel_rfl) (al (fun _ _ => rfl) trivial)) (q_i (d := .p ((eL ePlace 3 dPlace) (ps ++ ([({ fSet := 0, fMore := 0, fEnd := true } : Place)])))) 2 (.p ((eL ePlace 3 dPlace) (plOf (parseS s)))) ?_ ?_))))))
     ·refine imp_eq (congrArg (fun x => D.p ((eL ePlace 3 dPlace) x)) (a₁ := (ps ++ ([({ fSet := 0, fMore := 0, fEnd := true } : Place)]))) (a₂ := (plOf (parseS s))) ?_)
      rw [← hi0_0]; first | (rw [parseM_1 (by omega) hc1 hc2]; rfl) | (rw [parseM_2 (by omega) hc1 hc2 hc3]; rfl) | (rw [parseM_4 (by omega) hc1 hc4]; rfl)
     refine q_i (d := .p ((eL eI 1 0) st)) 3 (.p ((eL eI 1 0) (stOf (parseS s)))) ?_ ?_
     ·refine imp_eq (congrArg (fun x => D.p ((eL eI 1 0) x)) (a₁ := st) (a₂ := (stOf (parseS s))) ?_)
      rw [← hi0_0]; first | (rw [parseM_1 (by omega) hc1 hc2]; rfl) | (rw [parseM_2 (by omega) hc1 hc2 hc3]; rfl) | (rw [parseM_4 (by omega) hc1 hc4]; rfl)
     refine q_i (d := vbool true) 4 (vbool ((parseS s).isSome)) ?_ ?_
     ·refine imp_eq (congrArg (fun x => D.p (eB x)) (a₁ := true) (a₂ := ((parseS s).isSome)) ?_)
      rw [← hi0_0]; first | (rw [parseM_1 (by omega) hc1 hc2]; rfl) | (rw [parseM_2 (by omega) hc1 hc2 hc3]; rfl) | (rw [parseM_4 (by omega) hc1 hc4]; rfl)
     exact q_z [.p ((eL ePlace 3 dPlace) (plOf (parseS s))), .p ((eL eI 1 0) (stOf (parseS s))), vbool ((parseS s).isSome)] (fun _ _ h => h)
    ·refine tr_skip (tr_then (tr_seq (q_r [∀ j, j < 1 → ([.v (.int .i64 (((ps ++ ([({ fSet := 0, fMore := 0, fEnd := true } : Place)])).length : Nat) : Int))] : List PV).getD j default = (fun i => eI (([(((ps ++ ([({ fSet := 0, fMore := 0, fEnd := true } : Place)])).length : Nat) : Int)]).getD i 0)) j, (st.length + (([(((ps ++ ([({ fSet := 0, fMore := 0, fEnd := true } : Place)])).length : Nat) : Int)]).length)) * 8 ≤ 140737488355328] [2, 3, 5] [.own 2, .own 3, vstr r] [.dead, .dead, oL 73 ePlace 3 dPlace (ps ++ ([({ fSet := 0, fMore := 0, fEnd := true } : Place)])), .arr 3 1 (st.length + ([(((ps ++ ([({ fSet := 0, fMore := 0, fEnd := true } : Place)])).length : Nat) : Int)]).length) (appF (fun i => .p (eI (st.getD i 0))) st.length (fun j => .p (eI (([(((ps ++ ([({ fSet := 0, fMore := 0, fEnd := true } : Place)])).length : Nat) : Int)]).getD j 0))))] [] [(3, .p ((eL eI 1 0) ([(((ps ++ ([({ fSet := 0, fMore := 0, fEnd := true } : Place)])).length : Nat) : Int)])))] (al (lit_pv (e := eI) (d := 0) (l := [(((ps ++ ([({ fSet := 0, fMore := 0, fEnd := true } : Place)])).length : Nat) : Int)])) (al (by simp_all; omega) (trivial))) (nm_pre (E' := [(2, none, .own 2), (3, none, .own 3), (5, none, vstr r)]) (H' := [.dead, .dead, oL 73 ePlace 3 dPlace (ps ++ ([({ fSet := 0, fMore := 0, fEnd := true } : Place)])), oL 3 eI 1 0 (st ++ ([(((ps ++ ([({ fSet := 0, fMore := 0, fEnd := true } : Place)])).length : Nat) : Int)]))]) (fun _ _ => sl_arr (n := (st.length + ([(((ps ++ ([({ fSet := 0, fMore := 0, fEnd := true } : Place)])).length : Nat) : Int)]).length)) (n' := (st ++ ([(((ps ++ ([({ fSet := 0, fMore := 0, fEnd := true } : Place)])).length : Nat) : Int)])).length) (f := appF (fun i => .p (eI (st.getD i 0))) st.length (fun j => .p (eI (([(((ps ++ ([({ fSet := 0, fMore := 0, fEnd := true } : Place)])).length : Nat) : Int)]).getD j 0)))) 3 (fun i => .p (eI ((st ++ ([(((ps ++ ([({ fSet := 0, fMore := 0, fEnd := true } : Place)])).length : Nat) : Int)])).getD i 0))) (by kernel_rfl) (by simp) (by first | exact appN | exact nilN | exact app0 | exact nilV _)) (tr_then (tr_seq (q_k [(0 : Int) ≤ 1, 1 ≤ (r.length : Int), (r.length : Int) ≤ (r.length : Int), ((r.drop 1).take (r.length - 1)) = (r.drop 1)] [2, 3, 5] [.own 2, .own 3, vstr (r.drop 1)] [(1, vstr (r.drop 1))] [] ?_ ?_)))))))
     ·refine al (by omega) (al ?_ (al (by omega) (al cut_drop_str (trivial))))
      ·have := List.length_pos_iff.2 hc3; omega
     refine tr_then (tr_exit (th_e (in_hit (lp_end ((k - 1), (ps ++ ([({ fSet := 0, fMore := 0, fEnd := true } : Place)])), (st ++ ([(((ps ++ ([({ fSet := 0, fMore := 0, fEnd := true } : Place)])).length : Nat) : Int)])), (r.drop 1)) ?_ ?_ ?_))))
     ·show (parseM (k - 1) (ps ++ ([({ fSet := 0, fMore := 0, fEnd := true } : Place)])) (st ++ ([(((ps ++ ([({ fSet := 0, fMore := 0, fEnd := true } : Place)])).length : Nat) : Int)])) (r.drop 1) = parseS s) ∧ ((r.drop 1).length < (k - 1)) ∧ ((ps ++ ([({ fSet := 0, fMore := 0, fEnd := true } : Place)])).length + (r.drop 1).length ≤ s.length) ∧ (0 < (st ++ ([(((ps ++ ([({ fSet := 0, fMore := 0, fEnd := true } : Place)])).length : Nat) : Int)])).length) ∧ ((st ++ ([(((ps ++ ([({ fSet := 0, fMore := 0, fEnd := true } : Place)])).length : Nat) : Int)])).length + (r.drop 1).length ≤ s.length + 1)
      refine ⟨?_, ?_, ?_, ?_, ?_⟩
      ·rw [← hi0_0]; first | exact (parseM_3 (by omega) hc1 hc2 hc3).symm | exact (parseM_5 (by omega) hc1 hc4 hc5).symm | exact (parseM_6 (by omega) hc1 hc4 hc5).symm
      ·have hp : 0 < r.length := List.length_pos_iff.2 (by first | exact hc3 | exact fun h => hc1 (.inl h)); have h1 := hr hp; (try have h43 := hr2 hp hc5); (try simp only [List.length_append, List.length_drop, List.length_cons, List.length_nil]); omega
      ·have hp : 0 < r.length := List.length_pos_iff.2 (by first | exact hc3 | exact fun h => hc1 (.inl h)); have h1 := hr hp; (try have h43 := hr2 hp hc5); (try simp only [List.length_append, List.length_drop, List.length_cons, List.length_nil]); omega
      ·have hp : 0 < r.length := List.length_pos_iff.2 (by first | exact hc3 | exact fun h => hc1 (.inl h)); have h1 := hr hp; (try have h43 := hr2 hp hc5); (try simp only [List.length_append, List.length_drop, List.length_cons, List.length_nil]); omega
      ·have hp : 0 < r.length := List.length_pos_iff.2 (by first | exact hc3 | exact fun h => hc1 (.inl h)); have h1 := hr hp; (try have h43 := hr2 hp hc5); (try simp only [List.length_append, List.length_drop, List.length_cons, List.length_nil]); omega
     ·show (r.drop 1).length < r.length
      have hp : 0 < r.length := List.length_pos_iff.2 (by first | exact hc3 | exact fun h => hc1 (.inl h)); have h1 := hr hp; (try have h43 := hr2 hp hc5); (try simp only [List.length_append, List.length_drop, List.length_cons, List.length_nil]); omega
     ·intro A_ W_ hS
      exact q_v [∀ i, i < (st ++ ([(((ps ++ ([({ fSet := 0, fMore := 0, fEnd := true } : Place)])).length : Nat) : Int)])).length → D.p (eI ((st ++ ([(((ps ++ ([({ fSet := 0, fMore := 0, fEnd := true } : Place)])).length : Nat) : Int)])).getD i 0)) = .p (eI ((st ++ ([(((ps ++ ([({ fSet := 0, fMore := 0, fEnd := true } : Place)])).length : Nat) : Int)])).getD i 0)), ∀ i, i < (ps ++ ([({ fSet := 0, fMore := 0, fEnd := true } : Place)])).length → D.p (ePlace ((ps ++ ([({ fSet := 0, fMore := 0, fEnd := true } : Place)])).getD i dPlace)) = .p (ePlace ((ps ++ ([({ fSet := 0, fMore := 0, fEnd := true } : Place)])).getD i dPlace))] [3, 2] [2, 3, 5] (al (fun _ _ => rfl) (al (fun _ _ => rfl) trivial)) hS
  ·refine tr_skip (tr_then (tr_seq (q_k [Pure Try.prog 47 [.s r] (.tup [vint .u64 (cSet (pSet r)), vint .u8 (pMore (pSet r)), vstr (pRest (pSet r)), vbool ((pSet r).isSome)])] [2, 3, 7, 8, 9, 10] [.own 1, .own 0, vint .u64 (cSet (pSet r)), vint .u8 (pMore (pSet r)), vstr (pRest (pSet r)), vbool ((pSet r).isSome)] [] [(1, .tup [vint .u64 (cSet (pSet r)), vint .u8 (pMore (pSet r)), vstr (pRest (pSet r)), vbool ((pSet r).isSome)])] (al (piece_ok _ (by first | omega | first | omega | (intro hg; simp at hg; omega) | (simp; done) | (simp_all; done) | (simp_all; omega) | grind) (by first | omega | first | omega | (intro hg; simp at hg; omega) | (simp; done) | (simp_all; done) | (simp_all; omega) | grind)) (trivial)) (tr_then (tr_seq (tr_seq (q_m [2, 3, 7, 8, 9, 53] [.own 1, .own 0, vint .u64 (cSet (pSet r)), vint .u8 (pMore (pSet r)), vstr (pRest (pSet r)), vbool (!((pSet r).isSome))] (tr_then (q_c (!((pSet r).isSome)) (((pSet r).isSome) = false) (fun hc4 => ?_) (fun hc4 => ?_))))))))))
   ·refine tr_seq (q_m [2, 3, 4] [.p (.v (.slice none 0 0)), .p (.v (.slice none 0 0)), vbool false] (tr_then (tr_pre (E' := [(2, none, .p (.v (.slice none 0 0))), (3, none, .p (.v (.slice none 0 0))), (4, none, vbool false)]) (H' := []) (fun _ _ h => q_w [] [2, 3, 4] h) (q_i (d := .p (.v (.slice none 0 0))) 2 (.p ((eL ePlace 3 dPlace) (plOf (parseS s)))) ?_ ?_))))
    ·refine imp_nil (plOf (parseS s)) ?_
     rw [← hi0_0]; first | (rw [parseM_1 (by omega) hc1 hc2]; rfl) | (rw [parseM_2 (by omega) hc1 hc2 hc3]; rfl) | (rw [parseM_4 (by omega) hc1 hc4]; rfl)
    refine q_i (d := .p (.v (.slice none 0 0))) 3 (.p ((eL eI 1 0) (stOf (parseS s)))) ?_ ?_
    ·refine imp_nil (stOf (parseS s)) ?_
     rw [← hi0_0]; first | (rw [parseM_1 (by omega) hc1 hc2]; rfl) | (rw [parseM_2 (by omega) hc1 hc2 hc3]; rfl) | (rw [parseM_4 (by omega) hc1 hc4]; rfl)
    refine q_i (d := vbool false) 4 (vbool ((parseS s).isSome)) ?_ ?_
    ·refine imp_eq (congrArg (fun x => D.p (eB x)) (a₁ := false) (a₂ := ((parseS s).isSome)) ?_)
     rw [← hi0_0]; first | (rw [parseM_1 (by omega) hc1 hc2]; rfl) | (rw [parseM_2 (by omega) hc1 hc2 hc3]; rfl) | (rw [parseM_4 (by omega) hc1 hc4]; rfl)
    exact q_z [.p ((eL ePlace 3 dPlace) (plOf (parseS s))), .p ((eL eI 1 0) (stOf (parseS s))), vbool ((parseS s).isSome)] (fun _ _ h => h)
   ·refine tr_skip (tr_then (tr_seq (q_m [2, 3, 5, 7, 8] [.own 1, .own 0, vstr (pRest (pSet r)), vint .u64 (cSet (pSet r)), vint .u8 (pMore (pSet r))] (tr_then (tr_seq (tr_seq (q_m [2, 3, 5, 7, 8, 56] [.own 1, .own 0, vstr (pRest (pSet r)), vint .u64 (cSet (pSet r)), vint .u8 (pMore (pSet r)), vbool ((pMore (pSet r)) == 43)] (tr_then (q_c ((pMore (pSet r)) == 43) ((pMore (pSet r)) = 43) (fun hc5 => ?_) (fun hc5 => ?_))))))))))
    ·refine tr_seq (q_r [∀ j, j < 1 → ([.agg [.v (.int .u64 (cSet (pSet r))), .v (.int .u8 0), .v (.bool false)]] : List PV).getD j default = (fun i => ePlace (([({ fSet := (cSet (pSet r)), fMore := 0, fEnd := false } : Place)]).getD i dPlace)) j, (ps.length + (([({ fSet := (cSet (pSet r)), fMore := 0, fEnd := false } : Place)]).length)) * 16 ≤ 140737488355328] [2, 3, 5, 7] [.own 2, .own 0, vstr (pRest (pSet r)), vint .u64 (cSet (pSet r))] [oL 3 eI 1 0 st, .dead, .arr 73 3 (ps.length + ([({ fSet := (cSet (pSet r)), fMore := 0, fEnd := false } : Place)]).length) (appF (fun i => .p (ePlace (ps.getD i dPlace))) ps.length (fun j => .p (ePlace (([({ fSet := (cSet (pSet r)), fMore := 0, fEnd := false } : Place)]).getD j dPlace))))] [] [(3, .p ((eL ePlace 3 dPlace) ([({ fSet := (cSet (pSet r)), fMore := 0, fEnd := false } : Place)])))] (al (lit_pv (e := ePlace) (d := dPlace) (l := [({ fSet := (cSet (pSet r)), fMore := 0, fEnd := false } : Place)])) (al (by simp_all; omega) (trivial))) (nm_pre (E' := [(2, none, .own 2), (3, none, .own 0), (5, none, vstr (pRest (pSet r))), (7, none, vint .u64 (cSet (pSet r)))]) (H' := [oL 3 eI 1 0 st, .dead, oL 73 ePlace 3 dPlace (ps ++ ([({ fSet := (cSet (pSet r)), fMore := 0, fEnd := false } : Place)]))]) (fun _ _ => sl_arr (n := (ps.length + ([({ fSet := (cSet (pSet r)), fMore := 0, fEnd := false } : Place)]).length)) (n' := (ps ++ ([({ fSet := (cSet (pSet r)), fMore := 0, fEnd := false } : Place)])).length) (f := appF (fun i => .p (ePlace (ps.getD i dPlace))) ps.length (fun j => .p (ePlace (([({ fSet := (cSet (pSet r)), fMore := 0, fEnd := false } : Place)]).getD j dPlace)))) 2 (fun i => .p (ePlace ((ps ++ ([({ fSet := (cSet (pSet r)), fMore := 0, fEnd := false } : Place)])).getD i dPlace))) (by kernel_rfl) (by simp) (by first | exact appN | exact nilN | exact app0 | exact nilV _)) (tr_then (q_m [2, 3, 5, 7, 8] [.own 2, .own 0, vstr (pRest (pSet r)), vint .u64 (cSet (pSet r)), vint .u8 42] (tr_then (q_r [∀ j, j < 1 → ([.agg [.v (.int .u64 (cSet (pSet r))), .v (.int .u8 42), .v (.bool false)]] : List PV).getD j default = (fun i => ePlace (([({ fSet := (cSet (pSet r)), fMore := 42, fEnd := false } : Place)]).getD i dPlace)) j, (((ps ++ ([({ fSet := (cSet (pSet r)), fMore := 0, fEnd := false } : Place)])).length) + (([({ fSet := (cSet (pSet r)), fMore := 42, fEnd := false } : Place)]).length)) * 16 ≤ 140737488355328] [2, 3, 5] [.own 3, .own 0, vstr (pRest (pSet r))] [oL 3 eI 1 0 st, .dead, .dead, .arr 73 3 ((ps ++ ([({ fSet := (cSet (pSet r)), fMore := 0, fEnd := false } : Place)])).length + ([({ fSet := (cSet (pSet r)), fMore := 42, fEnd := false } : Place)]).length) (appF (fun i => .p (ePlace ((ps ++ ([({ fSet := (cSet (pSet r)), fMore := 0, fEnd := false } : Place)])).getD i dPlace))) ((ps ++ ([({ fSet := (cSet (pSet r)), fMore := 0, fEnd := false } : Place)])).length) (fun j => .p (ePlace (([({ fSet := (cSet (pSet r)), fMore := 42, fEnd := false } : Place)]).getD j dPlace))))] [] [(4, .p ((eL ePlace 3 dPlace) ([({ fSet := (cSet (pSet r)), fMore := 42, fEnd := false } : Place)])))] (al (lit_pv (e := ePlace) (d := dPlace) (l := [({ fSet := (cSet (pSet r)), fMore := 42, fEnd := false } : Place)])) (al (by simp_all; omega) (trivial))) (nm_pre (E' := [(2, none, .own 3), (3, none, .own 0), (5, none, vstr (pRest (pSet r)))]) (H' := [oL 3 eI 1 0 st, .dead, .dead, oL 73 ePlace 3 dPlace ((ps ++ ([({ fSet := (cSet (pSet r)), fMore := 0, fEnd := false } : Place)])) ++ ([({ fSet := (cSet (pSet r)), fMore := 42, fEnd := false } : Place)]))]) (fun _ _ => sl_arr (n := ((ps ++ ([({ fSet := (cSet (pSet r)), fMore := 0, fEnd := false } : Place)])).length + ([({ fSet := (cSet (pSet r)), fMore := 42, fEnd := false } : Place)]).length)) (n' := ((ps ++ ([({ fSet := (cSet (pSet r)), fMore := 0, fEnd := false } : Place)])) ++ ([({ fSet := (cSet (pSet r)), fMore := 42, fEnd := false } : Place)])).length) (f := appF (fun i => .p (ePlace ((ps ++ ([({ fSet := (cSet (pSet r)), fMore := 0, fEnd := false } : Place)])).getD i dPlace))) ((ps ++ ([({ fSet := (cSet (pSet r)), fMore := 0, fEnd := false } : Place)])).length) (fun j => .p (ePlace (([({ fSet := (cSet (pSet r)), fMore := 42, fEnd := false } : Place)]).getD j dPlace)))) 3 (fun i => .p (ePlace (((ps ++ ([({ fSet := (cSet (pSet r)), fMore := 0, fEnd := false } : Place)])) ++ ([({ fSet := (cSet (pSet r)), fMore := 42, fEnd := false } : Place)])).getD i dPlace))) (by kernel_rfl) (by simp) (by first | exact appN | exact nilN | exact app0 | exact nilV _)) (in_n (lp_end ((k - 1), ((ps ++ ([({ fSet := (cSet (pSet r)), fMore := 0, fEnd := false } : Place)])) ++ ([({ fSet := (cSet (pSet r)), fMore := 42, fEnd := false } : Place)])), st, (pRest (pSet r))) ?_ ?_ ?_)))))))))
     ·show (parseM (k - 1) ((ps ++ ([({ fSet := (cSet (pSet r)), fMore := 0, fEnd := false } : Place)])) ++ ([({ fSet := (cSet (pSet r)), fMore := 42, fEnd := false } : Place)])) st (pRest (pSet r)) = parseS s) ∧ ((pRest (pSet r)).length < (k - 1)) ∧ (((ps ++ ([({ fSet := (cSet (pSet r)), fMore := 0, fEnd := false } : Place)])) ++ ([({ fSet := (cSet (pSet r)), fMore := 42, fEnd := false } : Place)])).length + (pRest (pSet r)).length ≤ s.length) ∧ (0 < st.length) ∧ (st.length + (pRest (pSet r)).length ≤ s.length + 1)
      refine ⟨?_, ?_, ?_, ?_, ?_⟩
      ·rw [← hi0_0]; first | exact (parseM_3 (by omega) hc1 hc2 hc3).symm | exact (parseM_5 (by omega) hc1 hc4 hc5).symm | exact (parseM_6 (by omega) hc1 hc4 hc5).symm
      ·have hp : 0 < r.length := List.length_pos_iff.2 (by first | exact hc3 | exact fun h => hc1 (.inl h)); have h1 := hr hp; (try have h43 := hr2 hp hc5); (try simp only [List.length_append, List.length_drop, List.length_cons, List.length_nil]); omega
      ·have hp : 0 < r.length := List.length_pos_iff.2 (by first | exact hc3 | exact fun h => hc1 (.inl h)); have h1 := hr hp; (try have h43 := hr2 hp hc5); (try simp only [List.length_append, List.length_drop, List.length_cons, List.length_nil]); omega
      ·have hp : 0 < r.length := List.length_pos_iff.2 (by first | exact hc3 | exact fun h => hc1 (.inl h)); have h1 := hr hp; (try have h43 := hr2 hp hc5); (try simp only [List.length_append, List.length_drop, List.length_cons, List.length_nil]); omega
      ·have hp : 0 < r.length := List.length_pos_iff.2 (by first | exact hc3 | exact fun h => hc1 (.inl h)); have h1 := hr hp; (try have h43 := hr2 hp hc5); (try simp only [List.length_append, List.length_drop, List.length_cons, List.length_nil]); omega
     ·show (pRest (pSet r)).length < r.length
      have hp : 0 < r.length := List.length_pos_iff.2 (by first | exact hc3 | exact fun h => hc1 (.inl h)); have h1 := hr hp; (try have h43 := hr2 hp hc5); (try simp only [List.length_append, List.length_drop, List.length_cons, List.length_nil]); omega
     ·intro A_ W_ hS
      exact q_v [∀ i, i < st.length → D.p (eI (st.getD i 0)) = .p (eI (st.getD i 0)), ∀ i, i < ((ps ++ ([({ fSet := (cSet (pSet r)), fMore := 0, fEnd := false } : Place)])) ++ ([({ fSet := (cSet (pSet r)), fMore := 42, fEnd := false } : Place)])).length → D.p (ePlace (((ps ++ ([({ fSet := (cSet (pSet r)), fMore := 0, fEnd := false } : Place)])) ++ ([({ fSet := (cSet (pSet r)), fMore := 42, fEnd := false } : Place)])).getD i dPlace)) = .p (ePlace (((ps ++ ([({ fSet := (cSet (pSet r)), fMore := 0, fEnd := false } : Place)])) ++ ([({ fSet := (cSet (pSet r)), fMore := 42, fEnd := false } : Place)])).getD i dPlace))] [0, 3] [2, 3, 5] (al (fun _ _ => rfl) (al (fun _ _ => rfl) trivial)) hS
    ·refine tr_skip (tr_then (q_r [∀ j, j < 1 → ([.agg [.v (.int .u64 (cSet (pSet r))), .v (.int .u8 (pMore (pSet r))), .v (.bool false)]] : List PV).getD j default = (fun i => ePlace (([({ fSet := (cSet (pSet r)), fMore := (pMore (pSet r)), fEnd := false } : Place)]).getD i dPlace)) j, (ps.length + (([({ fSet := (cSet (pSet r)), fMore := (pMore (pSet r)), fEnd := false } : Place)]).length)) * 16 ≤ 140737488355328] [2, 3, 5] [.own 2, .own 0, vstr (pRest (pSet r))] [oL 3 eI 1 0 st, .dead, .arr 73 3 (ps.length + ([({ fSet := (cSet (pSet r)), fMore := (pMore (pSet r)), fEnd := false } : Place)]).length) (appF (fun i => .p (ePlace (ps.getD i dPlace))) ps.length (fun j => .p (ePlace (([({ fSet := (cSet (pSet r)), fMore := (pMore (pSet r)), fEnd := false } : Place)]).getD j dPlace))))] [] [(4, .p ((eL ePlace 3 dPlace) ([({ fSet := (cSet (pSet r)), fMore := (pMore (pSet r)), fEnd := false } : Place)])))] (al (lit_pv (e := ePlace) (d := dPlace) (l := [({ fSet := (cSet (pSet r)), fMore := (pMore (pSet r)), fEnd := false } : Place)])) (al (by simp_all; omega) (trivial))) (nm_pre (E' := [(2, none, .own 2), (3, none, .own 0), (5, none, vstr (pRest (pSet r)))]) (H' := [oL 3 eI 1 0 st, .dead, oL 73 ePlace 3 dPlace (ps ++ ([({ fSet := (cSet (pSet r)), fMore := (pMore (pSet r)), fEnd := false } : Place)]))]) (fun _ _ => sl_arr (n := (ps.length + ([({ fSet := (cSet (pSet r)), fMore := (pMore (pSet r)), fEnd := false } : Place)]).length)) (n' := (ps ++ ([({ fSet := (cSet (pSet r)), fMore := (pMore (pSet r)), fEnd := false } : Place)])).length) (f := appF (fun i => .p (ePlace (ps.getD i dPlace))) ps.length (fun j => .p (ePlace (([({ fSet := (cSet (pSet r)), fMore := (pMore (pSet r)), fEnd := false } : Place)]).getD j dPlace)))) 2 (fun i => .p (ePlace ((ps ++ ([({ fSet := (cSet (pSet r)), fMore := (pMore (pSet r)), fEnd := false } : Place)])).getD i dPlace))) (by kernel_rfl) (by simp) (by first | exact appN | exact nilN | exact app0 | exact nilV _)) (in_n (lp_end ((k - 1), (ps ++ ([({ fSet := (cSet (pSet r)), fMore := (pMore (pSet r)), fEnd := false } : Place)])), st, (pRest (pSet r))) ?_ ?_ ?_)))))
     ·show (parseM (k - 1) (ps ++ ([({ fSet := (cSet (pSet r)), fMore := (pMore (pSet r)), fEnd := false } : Place)])) st (pRest (pSet r)) = parseS s) ∧ ((pRest (pSet r)).length < (k - 1)) ∧ ((ps ++ ([({ fSet := (cSet (pSet r)), fMore := (pMore (pSet r)), fEnd := false } : Place)])).length + (pRest (pSet r)).length ≤ s.length) ∧ (0 < st.length) ∧ (st.length + (pRest (pSet r)).length ≤ s.length + 1)
      refine ⟨?_, ?_, ?_, ?_, ?_⟩
      ·rw [← hi0_0]; first | exact (parseM_3 (by omega) hc1 hc2 hc3).symm | exact (parseM_5 (by omega) hc1 hc4 hc5).symm | exact (parseM_6 (by omega) hc1 hc4 hc5).symm
      ·have hp : 0 < r.length := List.length_pos_iff.2 (by first | exact hc3 | exact fun h => hc1 (.inl h)); have h1 := hr hp; (try have h43 := hr2 hp hc5); (try simp only [List.length_append, List.length_drop, List.length_cons, List.length_nil]); omega
      ·have hp : 0 < r.length := List.length_pos_iff.2 (by first | exact hc3 | exact fun h => hc1 (.inl h)); have h1 := hr hp; (try have h43 := hr2 hp hc5); (try simp only [List.length_append, List.length_drop, List.length_cons, List.length_nil]); omega
      ·have hp : 0 < r.length := List.length_pos_iff.2 (by first | exact hc3 | exact fun h => hc1 (.inl h)); have h1 := hr hp; (try have h43 := hr2 hp hc5); (try simp only [List.length_append, List.length_drop, List.length_cons, List.length_nil]); omega
      ·have hp : 0 < r.length := List.length_pos_iff.2 (by first | exact hc3 | exact fun h => hc1 (.inl h)); have h1 := hr hp; (try have h43 := hr2 hp hc5); (try simp only [List.length_append, List.length_drop, List.length_cons, List.length_nil]); omega
     ·show (pRest (pSet r)).length < r.length
      have hp : 0 < r.length := List.length_pos_iff.2 (by first | exact hc3 | exact fun h => hc1 (.inl h)); have h1 := hr hp; (try have h43 := hr2 hp hc5); (try simp only [List.length_append, List.length_drop, List.length_cons, List.length_nil]); omega
     ·intro A_ W_ hS
      exact q_v [∀ i, i < st.length → D.p (eI (st.getD i 0)) = .p (eI (st.getD i 0)), ∀ i, i < (ps ++ ([({ fSet := (cSet (pSet r)), fMore := (pMore (pSet r)), fEnd := false } : Place)])).length → D.p (ePlace ((ps ++ ([({ fSet := (cSet (pSet r)), fMore := (pMore (pSet r)), fEnd := false } : Place)])).getD i dPlace)) = .p (ePlace ((ps ++ ([({ fSet := (cSet (pSet r)), fMore := (pMore (pSet r)), fEnd := false } : Place)])).getD i dPlace))] [0, 2] [2, 3, 5] (al (fun _ _ => rfl) (al (fun _ _ => rfl) trivial)) hS
end Go.Proofs.Ytjnjmnfacaakfaa
