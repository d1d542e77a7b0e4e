/-
  LanguageParses: whatever the input, the call returns true, and each argument reads afterwards as it read before. (Part 6 of 9 of its proof.)
-/
import Derived.Test.YtjnjmnfacaakfaaCP5
import Derived.Test.YtjnjmnfacaakfaaRows
namespace Go.Proofs.Ytjnjmnfacaakfaa
open Go.Eng
end Go.Proofs.Ytjnjmnfacaakfaa
namespace Go.Proofs.Ytjnjmnfacaakfaa
open Go.Eng
theorem sanity_ok  : Pure Try.prog 8 [] (vbool true) := by
  refine pure_of (fn := Try.f8) Try.func8 rfl rfl fun F_ W0_ => ?_
  refine tr_seq ?_
  refine tr_r (vc := []) (E' := []) (H' := []) [] [] [] (by kernel_rfl) ?_ ?_
  · exact trivial
  refine tr_then (tr_seq ?_)
  refine tr_r (vc := [Pure Try.prog 11 [.s ([91, 97, 45, 99, 93, 43, 49, 63] : List UInt8)] (.tup [.p (eLang ((langS ([91, 97, 45, 99, 93, 43, 49, 63] : List UInt8)).1)), vint .i64 ((langS ([91, 97, 45, 99, 93, 43, 49, 63] : List UInt8)).2)]), (.p (eLang ((langS ([91, 97, 45, 99, 93, 43, 49, 63] : List UInt8)).1)) : D) = .p (eLang lang1), ((langS ([91, 97, 45, 99, 93, 43, 49, 63] : List UInt8)).2) = 0]) (E' := [(1, none, .ref 0 []), (2, none, vint .i64 0)]) (H' := [.box (.p (eLang lang1))]) [(2, .p (eLang lang1)), (3, vint .i64 0)] [(0, .tup [.p (eLang ((langS ([91, 97, 45, 99, 93, 43, 49, 63] : List UInt8)).1)), vint .i64 ((langS ([91, 97, 45, 99, 93, 43, 49, 63] : List UInt8)).2)])] [1, 2] (by kernel_rfl) ?_ ?_
  · refine al ?_ (al ?_ (al ?_ (trivial)))
    · exact Parse_ok _ (by (simp; done))
    · exact congrArg (fun x => D.p (eLang x)) (congrArg Prod.fst ex1)
    · exact congrArg Prod.snd ex1
  refine tr_then (tr_seq ?_)
  refine tr_seq ?_
  refine tr_r (vc := [((0 : Int) != 0) = false, (!false) = true → (!false) = true, (!false) = true → (Pure Try.prog 16 [eLang lang1, .s ([97, 98, 99, 97, 49] : List UInt8)] (vbool (has lang1 ([97, 98, 99, 97, 49] : List UInt8)))), (!false) = true → (!false) = true, (!false) = true → ((!(has lang1 ([97, 98, 99, 97, 49] : List UInt8))) = false), (!false) = true → (!false) = true, (!(false || false)) = true → (!(false || false)) = true, (!(false || false)) = true → (Pure Try.prog 16 [eLang lang1, .s ([97] : List UInt8)] (vbool (has lang1 ([97] : List UInt8)))), (!(false || false)) = true → (!(false || false)) = true, (!(false || false)) = true → ((!(has lang1 ([97] : List UInt8))) = false), (!(false || false)) = true → (!(false || false)) = true, (!((false || false) || false)) = true → (!((false || false) || false)) = true, (!((false || false) || false)) = true → (Pure Try.prog 16 [eLang lang1, .s ([49] : List UInt8)] (vbool (has lang1 ([49] : List UInt8)))), (!((false || false) || false)) = true → (!((false || false) || false)) = true, (!(((false || false) || false) || (has lang1 ([49] : List UInt8)))) = true → (!(((false || false) || false) || (has lang1 ([49] : List UInt8)))) = true, (!(((false || false) || false) || (has lang1 ([49] : List UInt8)))) = true → (Pure Try.prog 16 [eLang lang1, .s ([97, 49, 49] : List UInt8)] (vbool (has lang1 ([97, 49, 49] : List UInt8)))), (!(((false || false) || false) || (has lang1 ([49] : List UInt8)))) = true → (!(((false || false) || false) || (has lang1 ([49] : List UInt8)))) = true]) (E' := [(1, none, .ref 0 []), (31, none, vbool ((((false || false) || false) || (has lang1 ([49] : List UInt8))) || (has lang1 ([97, 49, 49] : List UInt8))))]) (H' := [.box (.p (eLang lang1))]) [(1, vbool false), (5, vbool false), (10, vbool false)] [(4, vbool (has lang1 ([97, 98, 99, 97, 49] : List UInt8))), (9, vbool (has lang1 ([97] : List UInt8))), (14, vbool (has lang1 ([49] : List UInt8))), (18, vbool (has lang1 ([97, 49, 49] : List UInt8)))] [1, 31] (by kernel_rfl) ?_ ?_
  · refine al ?_ (al ?_ (al ?_ (al ?_ (al ?_ (al ?_ (al ?_ (al ?_ (al ?_ (al ?_ (al ?_ (al ?_ (al ?_ (al ?_ (al ?_ (al ?_ (al ?_ (trivial)))))))))))))))))
    · (simp; done)
    · exact id
    · intro _; exact has_ok _ _ (by (simp; done))
    · exact id
    · intro _; rw [ex3.1]; rfl
    · exact id
    · exact id
    · intro _; exact has_ok _ _ (by (simp; done))
    · exact id
    · intro _; rw [ex3.2.1]; rfl
    · exact id
    · exact id
    · intro _; exact has_ok _ _ (by (simp; done))
    · exact id
    · exact id
    · intro _; exact has_ok _ _ (by (simp; done))
    · exact id
  refine tr_then ?_
  refine tr_condP ((((false || false) || false) || (has lang1 ([49] : List UInt8))) || (has lang1 ([97, 49, 49] : List UInt8))) (((((false = true) ∨ (false = true)) ∨ (false = true)) ∨ ((has lang1 ([49] : List UInt8)) = true)) ∨ ((has lang1 ([97, 49, 49] : List UInt8)) = true)) (by simp) (by kernel_rfl) (fun hc1 => ?_) (fun hc1 => ?_)
  · exact absurd hc1 (by simp [ex3.2.2.1, ex3.2.2.2])
  · skip
    refine tr_skip ?_
    refine tr_then (tr_seq ?_)
    refine tr_r (vc := [Pure Try.prog 11 [.s ([120, 42] : List UInt8)] (.tup [.p (eLang ((langS ([120, 42] : List UInt8)).1)), vint .i64 ((langS ([120, 42] : List UInt8)).2)]), (.p (eLang ((langS ([120, 42] : List UInt8)).1)) : D) = .p (eLang lang2), ((langS ([120, 42] : List UInt8)).2) = 0]) (E' := [(1, none, .ref 0 []), (3, none, .ref 1 []), (4, none, vint .i64 0)]) (H' := [.box (.p (eLang lang1)), .box (.p (eLang lang2))]) [(2, .p (eLang lang2)), (3, vint .i64 0)] [(0, .tup [.p (eLang ((langS ([120, 42] : List UInt8)).1)), vint .i64 ((langS ([120, 42] : List UInt8)).2)])] [1, 3, 4] (by kernel_rfl) ?_ ?_
    · refine al ?_ (al ?_ (al ?_ (trivial)))
      · exact Parse_ok _ (by (simp; done))
      · exact congrArg (fun x => D.p (eLang x)) (congrArg Prod.fst ex2)
      · exact congrArg Prod.snd ex2
    refine tr_then (tr_seq ?_)
    refine tr_r (vc := [Pure Try.prog 14 [eLang lang1, .v (.int .i64 5)] (.p ((eL eS 1 []) (firstS lang1 5))), ∀ j, j < 5 → ([.s ([97] : List UInt8), .s ([98] : List UInt8), .s ([99] : List UInt8), .s ([97, 97] : List UInt8), .s ([97, 98] : List UInt8)] : List PV).getD j default = (fun i => eS (([([97] : List UInt8), ([98] : List UInt8), ([99] : List UInt8), ([97, 97] : List UInt8), ([97, 98] : List UInt8)]).getD i [])) j, Pure Try.prog 23 [(eL eS 1 []) (firstS lang1 5), (eL eS 1 []) ([([97] : List UInt8), ([98] : List UInt8), ([99] : List UInt8), ([97, 97] : List UInt8), ([97, 98] : List UInt8)])] (vbool (decide ((firstS lang1 5) = ([([97] : List UInt8), ([98] : List UInt8), ([99] : List UInt8), ([97, 97] : List UInt8), ([97, 98] : List UInt8)])))), (decide ((firstS lang1 5) = ([([97] : List UInt8), ([98] : List UInt8), ([99] : List UInt8), ([97, 97] : List UInt8), ([97, 98] : List UInt8)]))) = true, true = true → true = true, true = true → (((0 : Int) == 0) = true), true = true → true = true, (true || false) = true → (true || false) = true, (true || false) = true → (Pure Try.prog 14 [eLang lang2, .v (.int .i64 3)] (.p ((eL eS 1 []) (firstS lang2 3)))), (true || false) = true → (∀ j, j < 3 → ([.s ([] : List UInt8), .s ([120] : List UInt8), .s ([120, 120] : List UInt8)] : List PV).getD j default = (fun i => eS (([([] : List UInt8), ([120] : List UInt8), ([120, 120] : List UInt8)]).getD i [])) j), (true || false) = true → (true || false) = true, (true || false) = true → (true || false) = true, (true || false) = true → (Pure Try.prog 23 [(eL eS 1 []) (firstS lang2 3), (eL eS 1 []) ([([] : List UInt8), ([120] : List UInt8), ([120, 120] : List UInt8)])] (vbool (decide ((firstS lang2 3) = ([([] : List UInt8), ([120] : List UInt8), ([120, 120] : List UInt8)]))))), (true || false) = true → (true || false) = true]) (E' := [(5, none, vbool ((true || false) && (decide ((firstS lang2 3) = ([([] : List UInt8), ([120] : List UInt8), ([120, 120] : List UInt8)])))))]) (H' := [.box (.p (eLang lang1)), .box (.p (eLang lang2))]) [(4, vbool true), (6, vbool true)] [(1, .p ((eL eS 1 []) (firstS lang1 5))), (2, .p ((eL eS 1 []) ([([97] : List UInt8), ([98] : List UInt8), ([99] : List UInt8), ([97, 97] : List UInt8), ([97, 98] : List UInt8)]))), (3, vbool (decide ((firstS lang1 5) = ([([97] : List UInt8), ([98] : List UInt8), ([99] : List UInt8), ([97, 97] : List UInt8), ([97, 98] : List UInt8)])))), (10, .p ((eL eS 1 []) (firstS lang2 3))), (11, .p ((eL eS 1 []) ([([] : List UInt8), ([120] : List UInt8), ([120, 120] : List UInt8)]))), (12, vbool (decide ((firstS lang2 3) = ([([] : List UInt8), ([120] : List UInt8), ([120, 120] : List UInt8)]))))] [5] (by kernel_rfl) ?_ ?_
    · refine al ?_ (al ?_ (al ?_ (al ?_ (al ?_ (al ?_ (al ?_ (al ?_ (al ?_ (al ?_ (al ?_ (al ?_ (al ?_ (al ?_ (trivial))))))))))))))
      · exact First_ok _ _
      · exact lit_pv (e := eS) (d := []) (l := [([97] : List UInt8), ([98] : List UInt8), ([99] : List UInt8), ([97, 97] : List UInt8), ([97, 98] : List UInt8)])
      · exact sameTexts_ok _ _ (by rw [ex7]; decide)
      · exact decide_eq_true ex7
      · exact id
      · (simp; done)
      · exact id
      · exact id
      · intro _; exact First_ok _ _
      · intro _; exact lit_pv (e := eS) (d := []) (l := [([] : List UInt8), ([120] : List UInt8), ([120, 120] : List UInt8)])
      · exact id
      · exact id
      · intro _; exact sameTexts_ok _ _ (by rw [ex8]; decide)
      · exact id
    refine tr_then (tr_seq ?_)
    refine tr_r (vc := [Pure Try.prog 29 [.s ([91, 97, 45, 99, 93, 43, 49, 63] : List UInt8)] (vint .i64 (statesS ([91, 97, 45, 99, 93, 43, 49, 63] : List UInt8))), ((statesS ([91, 97, 45, 99, 93, 43, 49, 63] : List UInt8)) == 3) = true, true = true → (Pure Try.prog 29 [.s ([97, 98, 124, 97, 99] : List UInt8)] (vint .i64 (statesS ([97, 98, 124, 97, 99] : List UInt8)))), true = true → true = true, true = true → (((statesS ([97, 98, 124, 97, 99] : List UInt8)) == 4) = true), true = true → true = true, (true || false) = true → (Pure Try.prog 29 [.s ([120, 42] : List UInt8)] (vint .i64 (statesS ([120, 42] : List UInt8)))), (true || false) = true → (true || false) = true, (true || false) = true → (((statesS ([120, 42] : List UInt8)) == 1) = true), (true || false) = true → (true || false) = true, ((true || false) || false) = true → (Pure Try.prog 29 [.s ([91, 45, 97, 93, 98, 42, 124, 99] : List UInt8)] (vint .i64 (statesS ([91, 45, 97, 93, 98, 42, 124, 99] : List UInt8)))), ((true || false) || false) = true → ((true || false) || false) = true, ((true || false) || false) = true → ((decide (0 < (statesS ([91, 45, 97, 93, 98, 42, 124, 99] : List UInt8)))) = true), ((true || false) || false) = true → ((true || false) || false) = true]) (E' := [(5, none, vbool ((true || false) && (decide ((firstS lang2 3) = ([([] : List UInt8), ([120] : List UInt8), ([120, 120] : List UInt8)]))))), (6, none, vbool (((true || false) || false) || false))]) (H' := [.box (.p (eLang lang1)), .box (.p (eLang lang2))]) [(1, vbool true), (4, vbool true), (8, vbool true), (12, vbool true)] [(0, vint .i64 (statesS ([91, 97, 45, 99, 93, 43, 49, 63] : List UInt8))), (3, vint .i64 (statesS ([97, 98, 124, 97, 99] : List UInt8))), (7, vint .i64 (statesS ([120, 42] : List UInt8))), (11, vint .i64 (statesS ([91, 45, 97, 93, 98, 42, 124, 99] : List UInt8)))] [5, 6] (by kernel_rfl) ?_ ?_
    · refine al ?_ (al ?_ (al ?_ (al ?_ (al ?_ (al ?_ (al ?_ (al ?_ (al ?_ (al ?_ (al ?_ (al ?_ (al ?_ (al ?_ (trivial))))))))))))))
      · exact states_ok _ (by (simp; done))
      · exact beq_iff_eq.2 ex4
      · intro _; exact states_ok _ (by (simp; done))
      · exact id
      · intro _; exact beq_iff_eq.2 ex5.1
      · exact id
      · intro _; exact states_ok _ (by (simp; done))
      · exact id
      · intro _; exact beq_iff_eq.2 ex5.2.1
      · exact id
      · intro _; exact states_ok _ (by (simp; done))
      · exact id
      · intro _; exact decide_eq_true ex5.2.2
      · exact id
    refine tr_then (tr_seq ?_)
    refine tr_r (vc := []) (E' := [(5, none, vbool ((true || false) && (decide ((firstS lang2 3) = ([([] : List UInt8), ([120] : List UInt8), ([120, 120] : List UInt8)]))))), (6, none, vbool (((true || false) || false) || false)), (7, none, vint .i64 (-5))]) (H' := [.box (.p (eLang lang1)), .box (.p (eLang lang2))]) [] [] [5, 6, 7] (by kernel_rfl) ?_ ?_
    · exact trivial
    refine tr_then (tr_seq ?_)
    refine tr_r (vc := [((true || false) && (decide ((firstS lang2 3) = ([([] : List UInt8), ([120] : List UInt8), ([120, 120] : List UInt8)])))) = true, true = true → true = true, (true && (((true || false) || false) || false)) = true → (Pure Try.prog 29 [.s ([91, 97, 45, 93] : List UInt8)] (vint .i64 (statesS ([91, 97, 45, 93] : List UInt8)))), (true && (((true || false) || false) || false)) = true → (true && (((true || false) || false) || false)) = true, (true && (((true || false) || false) || false)) = true → (true && (((true || false) || false) || false)) = true, (true && (((true || false) || false) || false)) = true → (((statesS ([91, 97, 45, 93] : List UInt8)) == (-5)) = true), (true && (((true || false) || false) || false)) = true → (true && (((true || false) || false) || false)) = true, ((true && (((true || false) || false) || false)) || false) = true → (Pure Try.prog 29 [.s ([97, 43, 43] : List UInt8)] (vint .i64 (statesS ([97, 43, 43] : List UInt8)))), ((true && (((true || false) || false) || false)) || false) = true → ((true && (((true || false) || false) || false)) || false) = true, ((true && (((true || false) || false) || false)) || false) = true → ((true && (((true || false) || false) || false)) || false) = true, ((true && (((true || false) || false) || false)) || false) = true → (((statesS ([97, 43, 43] : List UInt8)) == (-5)) = true), ((true && (((true || false) || false) || false)) || false) = true → ((true && (((true || false) || false) || false)) || false) = true, (((true && (((true || false) || false) || false)) || false) || false) = true → (Pure Try.prog 29 [.s ([91, 98, 45, 97, 93] : List UInt8)] (vint .i64 (statesS ([91, 98, 45, 97, 93] : List UInt8)))), (((true && (((true || false) || false) || false)) || false) || false) = true → (((true && (((true || false) || false) || false)) || false) || false) = true, (((true && (((true || false) || false) || false)) || false) || false) = true → (((true && (((true || false) || false) || false)) || false) || false) = true, (((true && (((true || false) || false) || false)) || false) || false) = true → (((statesS ([91, 98, 45, 97, 93] : List UInt8)) == (-5)) = true), (((true && (((true || false) || false) || false)) || false) || false) = true → (((true && (((true || false) || false) || false)) || false) || false) = true, ((((true && (((true || false) || false) || false)) || false) || false) || false) = true → (Pure Try.prog 29 [.s ([] : List UInt8)] (vint .i64 (statesS ([] : List UInt8)))), ((((true && (((true || false) || false) || false)) || false) || false) || false) = true → ((((true && (((true || false) || false) || false)) || false) || false) || false) = true, ((((true && (((true || false) || false) || false)) || false) || false) || false) = true → ((((true && (((true || false) || false) || false)) || false) || false) || false) = true, ((((true && (((true || false) || false) || false)) || false) || false) || false) = true → (((statesS ([] : List UInt8)) == (-5)) = true), ((((true && (((true || false) || false) || false)) || false) || false) || false) = true → ((((true && (((true || false) || false) || false)) || false) || false) || false) = true]) (E' := [(0, none, vbool (((((true && (((true || false) || false) || false)) || false) || false) || false) || false))]) (H' := [.box (.p (eLang lang1)), .box (.p (eLang lang2))]) [(0, vbool true), (7, vbool true), (12, vbool true), (17, vbool true), (22, vbool true)] [(5, vint .i64 (statesS ([91, 97, 45, 93] : List UInt8))), (10, vint .i64 (statesS ([97, 43, 43] : List UInt8))), (15, vint .i64 (statesS ([91, 98, 45, 97, 93] : List UInt8))), (20, vint .i64 (statesS ([] : List UInt8)))] [0] (by kernel_rfl) ?_ ?_
    · refine al ?_ (al ?_ (al ?_ (al ?_ (al ?_ (al ?_ (al ?_ (al ?_ (al ?_ (al ?_ (al ?_ (al ?_ (al ?_ (al ?_ (al ?_ (al ?_ (al ?_ (al ?_ (al ?_ (al ?_ (al ?_ (al ?_ (trivial))))))))))))))))))))))
      · rw [decide_eq_true ex8]; rfl
      · exact id
      · intro _; exact states_ok _ (by (simp; done))
      · exact id
      · exact id
      · intro _; exact beq_iff_eq.2 ex6.1
      · exact id
      · intro _; exact states_ok _ (by (simp; done))
      · exact id
      · exact id
      · intro _; exact beq_iff_eq.2 ex6.2.1
      · exact id
      · intro _; exact states_ok _ (by (simp; done))
      · exact id
      · exact id
      · intro _; exact beq_iff_eq.2 ex6.2.2.1
      · exact id
      · intro _; exact states_ok _ (by (simp; done))
      · exact id
      · exact id
      · intro _; exact beq_iff_eq.2 ex6.2.2.2
      · exact id
    refine tr_then ?_
    refine tr_pre (E' := [(0, none, vbool (((((true && (((true || false) || false) || false)) || false) || false) || false) || false))]) (H' := []) (fun A_ W_ hS => sl_weak (vc := []) [] [0] (by kernel_rfl) trivial hS) ?_
    refine tr_pre (E' := (0, none, vbool true) :: [(0, none, vbool (((((true && (((true || false) || false) || false)) || false) || false) || false) || false))]) (H' := []) (fun A_ W_ hS => sl_set_imp (d := vbool (((((true && (((true || false) || false) || false)) || false) || false) || false) || false)) 0 (vbool true) (by kernel_rfl) ?_ hS) ?_
    · refine imp_eq (congrArg (fun x => D.p (eB x)) (a₁ := (((((true && (((true || false) || false) || false)) || false) || false) || false) || false)) (a₂ := true) ?_)
      first | rfl | (simp; done) | omega | (simp_all; done) | grind
    refine tr_pre (E' := [(0, none, vbool true)]) (H' := []) (fun A_ W_ hS => sl_proj (ts := [0]) (by kernel_rfl) hS) ?_
    exact tr_return' (vc := []) (ds := [vbool true]) (by kernel_rfl) trivial (by kernel_rfl) (fun _ _ h => h)
end Go.Proofs.Ytjnjmnfacaakfaa
namespace Go.Proofs.Ytjnjmnfacaakfaa
open Go.Eng
theorem patS_len (l : List Int) : (patS l).length ≤ 56 := by
  have hv := nextV_lt ({ L := l, At := 0 } : Draw) (n := 2) (by omega)
  have := (branches_ok l (1 + nextV { L := l, At := 0 } 2).toNat).2
  unfold patS
  omega
end Go.Proofs.Ytjnjmnfacaakfaa
namespace Go.Eng
end Go.Eng
namespace Go.Proofs.Ytjnjmnfacaakfaa
open Go.Eng
end Go.Proofs.Ytjnjmnfacaakfaa
namespace Go.Proofs.Ytjnjmnfacaakfaa
open Go.Eng
structure Piece where
  Set : (Nat → Bool) := (fun _ => false)
  More : Int := 0
def dPiece : Piece := {}
def ePiece (x : Piece) : PV := .agg [(eA eB 1 37) x.Set, (eK .u8) x.More]
end Go.Proofs.Ytjnjmnfacaakfaa
namespace Go.Proofs.Ytjnjmnfacaakfaa
open Go.Eng
def m0 (s : List UInt8) (p : Nat) : Int := sym (s.getD p 0).toNat
/-- What a member of a class begins with. -/
def memS (s : List UInt8) (p : Nat) : Nat → Bool := upd noSet (m0 s p).toNat true
def memR (s : List UInt8) (p : Nat) (first : Bool) : (Nat → Bool) × Nat × Bool :=
  if m0 s p < 0 then (noSet, p, false) else if m0 s p = 36 then (memS s p, p + 1, first) else
  if ((s.length : Nat) : Int) ≤ ((p + 1 : Nat) : Int) ∨ ((s.getD (p + 1) 0).toNat : Int) ≠ 45 then (memS s p, p + 1, true) else
  if ((s.length : Nat) : Int) ≤ ((p + 2 : Nat) : Int) then (memS s p, p, false) else
  if (m0 s (p + 2) < m0 s p ∨ m0 s (p + 2) = 36) ∨ m0 s p < 26 ∧ 26 ≤ m0 s (p + 2) then (memS s p, p, false) else
  (range (memS s p) (m0 s p) (m0 s (p + 2) + 1), p + 3, true)
theorem member_ok (s : List UInt8) (p : Nat) (first : Bool) (hb0 : s.length < 4611686018427387904) (hp : p < s.length) : Pure Try.prog 54 [.s s, .v (.int .i64 ((p : Nat) : Int)), .v (.bool first)] (.tup [.p ((eA eB 1 37) ((memR s p first).1)), vint .i64 (((memR s p first).2.1 : Nat) : Int), vbool ((memR s p first).2.2)]) := by
  have b0 := (s.getD p 0).toNat_lt
  have b1 := (s.getD (p + 2) 0).toNat_lt
  have q0 := sym_le ((s.getD p 0).toNat : Int)
  have q1 := sym_ge ((s.getD p 0).toNat : Int)
  have q2 := sym_le ((s.getD (p + 2) 0).toNat : Int)
  have q3 := sym_ge ((s.getD (p + 2) 0).toNat : Int)
  have e0 : m0 s p = sym ((s.getD p 0).toNat : Int) := rfl
  have e1 : m0 s (p + 2) = sym ((s.getD (p + 2) 0).toNat : Int) := rfl
  refine pure_of (fn := Try.f54) Try.func54 rfl rfl fun F_ W0_ => ?_
  refine tr_seq ?_
  refine tr_r (vc := []) (E' := [(0, none, vstr s), (1, none, vint .i64 ((p : Nat) : Int)), (2, none, vbool first), (6, none, .ref 0 [])]) (H' := [.box (.p ((eA eB 1 37) (fun _ => false)))]) [] [] [0, 1, 2, 6] (by kernel_rfl) ?_ ?_
  · exact trivial
  refine tr_then (tr_seq ?_)
  refine tr_r (vc := []) (E' := [(0, none, vstr s), (1, none, vint .i64 ((p : Nat) : Int)), (2, none, vbool first), (6, none, .ref 0 []), (9, none, .ref 1 [])]) (H' := [.box (.p ((eA eB 1 37) (fun _ => false))), .box (.p ((eA eB 1 37) (fun _ => false)))]) [] [] [0, 1, 2, 6, 9] (by kernel_rfl) ?_ ?_
  · exact trivial
  refine tr_then (tr_seq ?_)
  refine tr_r (vc := [(0 : Int) ≤ ((p : Nat) : Int), ((p : Nat) : Int) < (s.length : Int), Pure Try.prog 43 [.v (.int .u8 ((s.getD p 0).toNat : Int))] (vint .i64 (sym ((s.getD p 0).toNat : Int))), (sym ((s.getD p 0).toNat : Int)) = (m0 s p)]) (E' := [(0, none, vstr s), (1, none, vint .i64 ((p : Nat) : Int)), (2, none, vbool first), (6, none, .ref 0 []), (9, none, .ref 1 []), (10, none, vint .i64 (m0 s p))]) (H' := [.box (.p ((eA eB 1 37) (fun _ => false))), .box (.p ((eA eB 1 37) (fun _ => false)))]) [(4, vint .i64 (m0 s p))] [(3, vint .i64 (sym ((s.getD p 0).toNat : Int)))] [0, 1, 2, 6, 9, 10] (by kernel_rfl) ?_ ?_
  · refine al ?_ (al ?_ (al ?_ (al ?_ (trivial))))
    · omega
    · omega
    · first | exact refSymbolB_ok _ | exact refSymbol_ok _ (by omega) (by omega)
    · omega
  refine tr_then (tr_seq ?_)
  refine tr_seq ?_
  refine tr_r (vc := []) (E' := [(0, none, vstr s), (1, none, vint .i64 ((p : Nat) : Int)), (2, none, vbool first), (6, none, .ref 0 []), (9, none, .ref 1 []), (10, none, vint .i64 (m0 s p)), (18, none, vbool (decide ((m0 s p) < 0)))]) (H' := [.box (.p ((eA eB 1 37) (fun _ => false))), .box (.p ((eA eB 1 37) (fun _ => false)))]) [] [] [0, 1, 2, 6, 9, 10, 18] (by kernel_rfl) ?_ ?_
  · exact trivial
  refine tr_then ?_
  refine tr_condP (decide ((m0 s p) < 0)) ((m0 s p) < 0) (by simp) (by kernel_rfl) (fun hc1 => ?_) (fun hc1 => ?_)
  · skip
    refine tr_seq ?_
    refine tr_r (vc := []) (E' := [(6, none, .ref 0 []), (7, none, vint .i64 ((p : Nat) : Int)), (8, none, vbool false)]) (H' := [.box (.p ((eA eB 1 37) (fun _ => false))), .box (.p ((eA eB 1 37) (fun _ => false)))]) [] [] [6, 7, 8] (by kernel_rfl) ?_ ?_
    · exact trivial
    refine tr_then ?_
    refine tr_pre (E' := [(6, none, .ref 0 []), (7, none, vint .i64 ((p : Nat) : Int)), (8, none, vbool false)]) (H' := [.box (.p ((eA eB 1 37) (fun _ => false)))]) (fun A_ W_ hS => sl_weak (vc := []) [0] [6, 7, 8] (by kernel_rfl) trivial hS) ?_
    refine tr_pre (E' := [(6, none, .ref 0 []), (7, none, vint .i64 ((p : Nat) : Int)), (8, none, vbool false)]) (H' := [.box (.p ((eA eB 1 37) ((memR s p first).1)))]) (fun A_ W_ hS => sl_obj_imp (d := .p ((eA eB 1 37) (fun _ => false))) 0 (.p ((eA eB 1 37) ((memR s p first).1))) (by kernel_rfl) ?_ hS) ?_
    · refine impC_eq (congrArg (fun x => D.p ((eA eB 1 37) x)) (a₁ := (fun _ => false)) (a₂ := ((memR s p first).1)) ?_)
      first | (rw [memR, if_pos hc1]; done) | (rw [memR, if_pos hc1]; rfl) | (rw [memR, if_neg hc1, if_pos hc2]; done) | (rw [memR, if_neg hc1, if_pos hc2]; rfl) | (rw [memR, if_neg hc1, if_neg hc2, if_pos hc3]; done) | (rw [memR, if_neg hc1, if_neg hc2, if_pos hc3]; rfl) | (rw [memR, if_neg hc1, if_neg hc2, if_neg hc3, if_pos hc4]; done) | (rw [memR, if_neg hc1, if_neg hc2, if_neg hc3, if_pos hc4]; rfl) | (rw [memR, if_neg hc1, if_neg hc2, if_neg hc3, if_neg hc4, if_pos hc5]; done) | (rw [memR, if_neg hc1, if_neg hc2, if_neg hc3, if_neg hc4, if_pos hc5]; rfl) | (rw [memR, if_neg hc1, if_neg hc2, if_neg hc3, if_neg hc4, if_neg hc5, show m0 s (p + 2) + 1 = m0 s p + k by omega]; done) | (rw [memR, if_neg hc1, if_neg hc2, if_neg hc3, if_neg hc4, if_neg hc5, show m0 s (p + 2) + 1 = m0 s p + k by omega]; rfl)
    refine tr_pre (E' := (7, none, vint .i64 (((memR s p first).2.1 : Nat) : Int)) :: [(6, none, .ref 0 []), (7, none, vint .i64 ((p : Nat) : Int)), (8, none, vbool false)]) (H' := [.box (.p ((eA eB 1 37) ((memR s p first).1)))]) (fun A_ W_ hS => sl_set_imp (d := vint .i64 ((p : Nat) : Int)) 7 (vint .i64 (((memR s p first).2.1 : Nat) : Int)) (by kernel_rfl) ?_ hS) ?_
    · refine imp_eq (congrArg (fun x => D.p (eI x)) (a₁ := ((p : Nat) : Int)) (a₂ := (((memR s p first).2.1 : Nat) : Int)) ?_)
      first | (rw [memR, if_pos hc1]; done) | (rw [memR, if_pos hc1]; rfl) | (rw [memR, if_neg hc1, if_pos hc2]; done) | (rw [memR, if_neg hc1, if_pos hc2]; rfl) | (rw [memR, if_neg hc1, if_neg hc2, if_pos hc3]; done) | (rw [memR, if_neg hc1, if_neg hc2, if_pos hc3]; rfl) | (rw [memR, if_neg hc1, if_neg hc2, if_neg hc3, if_pos hc4]; done) | (rw [memR, if_neg hc1, if_neg hc2, if_neg hc3, if_pos hc4]; rfl) | (rw [memR, if_neg hc1, if_neg hc2, if_neg hc3, if_neg hc4, if_pos hc5]; done) | (rw [memR, if_neg hc1, if_neg hc2, if_neg hc3, if_neg hc4, if_pos hc5]; rfl) | (rw [memR, if_neg hc1, if_neg hc2, if_neg hc3, if_neg hc4, if_neg hc5, show m0 s (p + 2) + 1 = m0 s p + k by omega]; done) | (rw [memR, if_neg hc1, if_neg hc2, if_neg hc3, if_neg hc4, if_neg hc5, show m0 s (p + 2) + 1 = m0 s p + k by omega]; rfl)
    refine tr_pre (E' := [(6, none, .ref 0 []), (7, none, vint .i64 (((memR s p first).2.1 : Nat) : Int)), (8, none, vbool false)]) (H' := [.box (.p ((eA eB 1 37) ((memR s p first).1)))]) (fun A_ W_ hS => sl_proj (ts := [6, 7, 8]) (by kernel_rfl) hS) ?_
    refine tr_pre (E' := (8, none, vbool ((memR s p first).2.2)) :: [(6, none, .ref 0 []), (7, none, vint .i64 (((memR s p first).2.1 : Nat) : Int)), (8, none, vbool false)]) (H' := [.box (.p ((eA eB 1 37) ((memR s p first).1)))]) (fun A_ W_ hS => sl_set_imp (d := vbool false) 8 (vbool ((memR s p first).2.2)) (by kernel_rfl) ?_ hS) ?_
    · refine imp_eq (congrArg (fun x => D.p (eB x)) (a₁ := false) (a₂ := ((memR s p first).2.2)) ?_)
      first | (rw [memR, if_pos hc1]; done) | (rw [memR, if_pos hc1]; rfl) | (rw [memR, if_neg hc1, if_pos hc2]; done) | (rw [memR, if_neg hc1, if_pos hc2]; rfl) | (rw [memR, if_neg hc1, if_neg hc2, if_pos hc3]; done) | (rw [memR, if_neg hc1, if_neg hc2, if_pos hc3]; rfl) | (rw [memR, if_neg hc1, if_neg hc2, if_neg hc3, if_pos hc4]; done) | (rw [memR, if_neg hc1, if_neg hc2, if_neg hc3, if_pos hc4]; rfl) | (rw [memR, if_neg hc1, if_neg hc2, if_neg hc3, if_neg hc4, if_pos hc5]; done) | (rw [memR, if_neg hc1, if_neg hc2, if_neg hc3, if_neg hc4, if_pos hc5]; rfl) | (rw [memR, if_neg hc1, if_neg hc2, if_neg hc3, if_neg hc4, if_neg hc5, show m0 s (p + 2) + 1 = m0 s p + k by omega]; done) | (rw [memR, if_neg hc1, if_neg hc2, if_neg hc3, if_neg hc4, if_neg hc5, show m0 s (p + 2) + 1 = m0 s p + k by omega]; rfl)
    refine tr_pre (E' := [(6, none, .ref 0 []), (7, none, vint .i64 (((memR s p first).2.1 : Nat) : Int)), (8, none, vbool ((memR s p first).2.2))]) (H' := [.box (.p ((eA eB 1 37) ((memR s p first).1)))]) (fun A_ W_ hS => sl_proj (ts := [6, 7, 8]) (by kernel_rfl) hS) ?_
    exact tr_return' (vc := []) (ds := [.p ((eA eB 1 37) ((memR s p first).1)), vint .i64 (((memR s p first).2.1 : Nat) : Int), vbool ((memR s p first).2.2)]) (by kernel_rfl) trivial (by kernel_rfl) (fun _ _ h => h)
  · skip
    refine tr_skip ?_
    refine tr_then (tr_seq ?_)
    refine tr_r (vc := [(0 : Int) ≤ (m0 s p), (m0 s p) < (37 : Int), (m0 s p).toNat < 37]) (E' := [(0, none, vstr s), (1, none, vint .i64 ((p : Nat) : Int)), (2, none, vbool first), (6, none, .ref 0 []), (9, none, .ref 1 []), (10, none, vint .i64 (m0 s p))]) (H' := [.box (.p ((eA eB 1 37) (fun _ => false))), .box (.p (.vec 1 37 (upd (fun i => eB ((fun _ => false) i)) ((m0 s p).toNat) (.v (.bool true)))))]) [] [] [0, 1, 2, 6, 9, 10] (by kernel_rfl) ?_ ?_
    · refine al ?_ (al ?_ (al ?_ (trivial)))
      · omega
      · omega
      · omega
    refine nm_pre (E' := [(0, none, vstr s), (1, none, vint .i64 ((p : Nat) : Int)), (2, none, vbool first), (6, none, .ref 0 []), (9, none, .ref 1 []), (10, none, vint .i64 (m0 s p))]) (H' := [.box (.p ((eA eB 1 37) (fun _ => false))), .box (.p ((eA eB 1 37) (upd (fun _ => false) ((m0 s p).toNat) true)))]) (fun A_ W_ hS => sl_obj (o := .box (.p (.vec 1 37 (upd (fun i => eB ((fun _ => false) i)) ((m0 s p).toNat) (.v (.bool true)))))) 1 (.box (.p ((eA eB 1 37) (upd (fun _ => false) ((m0 s p).toNat) true)))) (by kernel_rfl) (by exact congrArg (fun y => O.box (D.p y)) (vec_upd (e := eB) (f := (fun _ => false)) (k := ((m0 s p).toNat)) (x := true))) hS) ?_
    refine tr_then (tr_seq ?_)
    refine tr_seq ?_
    refine tr_r (vc := []) (E' := [(0, none, vstr s), (1, none, vint .i64 ((p : Nat) : Int)), (2, none, vbool first), (6, none, .ref 0 []), (9, none, .ref 1 []), (10, none, vint .i64 (m0 s p)), (24, none, vbool ((m0 s p) == 36))]) (H' := [.box (.p ((eA eB 1 37) (fun _ => false))), .box (.p ((eA eB 1 37) (upd (fun _ => false) ((m0 s p).toNat) true)))]) [] [] [0, 1, 2, 6, 9, 10, 24] (by kernel_rfl) ?_ ?_
    · exact trivial
    refine tr_then ?_
    refine tr_condP ((m0 s p) == 36) ((m0 s p) = 36) (by simp) (by kernel_rfl) (fun hc2 => ?_) (fun hc2 => ?_)
    · skip
      refine tr_seq ?_
      refine tr_r (vc := [(IntKind.wrap .i64 (((p : Nat) : Int) + 1)) = (((p + 1) : Nat) : Int)]) (E' := [(6, none, .ref 0 []), (7, none, vint .i64 (((p + 1) : Nat) : Int)), (8, none, vbool first)]) (H' := [.box (.p ((eA eB 1 37) (upd (fun _ => false) ((m0 s p).toNat) true))), .box (.p ((eA eB 1 37) (upd (fun _ => false) ((m0 s p).toNat) true)))]) [(2, vint .i64 (((p + 1) : Nat) : Int))] [] [6, 7, 8] (by kernel_rfl) ?_ ?_
      · refine al ?_ (trivial)
        · exact wr64 (by omega) (by omega) (by omega)
      refine tr_then ?_
      refine tr_pre (E' := [(6, none, .ref 0 []), (7, none, vint .i64 (((p + 1) : Nat) : Int)), (8, none, vbool first)]) (H' := [.box (.p ((eA eB 1 37) (upd (fun _ => false) ((m0 s p).toNat) true)))]) (fun A_ W_ hS => sl_weak (vc := []) [0] [6, 7, 8] (by kernel_rfl) trivial hS) ?_
      refine tr_pre (E' := [(6, none, .ref 0 []), (7, none, vint .i64 (((p + 1) : Nat) : Int)), (8, none, vbool first)]) (H' := [.box (.p ((eA eB 1 37) ((memR s p first).1)))]) (fun A_ W_ hS => sl_obj_imp (d := .p ((eA eB 1 37) (upd (fun _ => false) ((m0 s p).toNat) true))) 0 (.p ((eA eB 1 37) ((memR s p first).1))) (by kernel_rfl) ?_ hS) ?_
      · refine impC_eq (congrArg (fun x => D.p ((eA eB 1 37) x)) (a₁ := (upd (fun _ => false) ((m0 s p).toNat) true)) (a₂ := ((memR s p first).1)) ?_)
        first | (rw [memR, if_pos hc1]; done) | (rw [memR, if_pos hc1]; rfl) | (rw [memR, if_neg hc1, if_pos hc2]; done) | (rw [memR, if_neg hc1, if_pos hc2]; rfl) | (rw [memR, if_neg hc1, if_neg hc2, if_pos hc3]; done) | (rw [memR, if_neg hc1, if_neg hc2, if_pos hc3]; rfl) | (rw [memR, if_neg hc1, if_neg hc2, if_neg hc3, if_pos hc4]; done) | (rw [memR, if_neg hc1, if_neg hc2, if_neg hc3, if_pos hc4]; rfl) | (rw [memR, if_neg hc1, if_neg hc2, if_neg hc3, if_neg hc4, if_pos hc5]; done) | (rw [memR, if_neg hc1, if_neg hc2, if_neg hc3, if_neg hc4, if_pos hc5]; rfl) | (rw [memR, if_neg hc1, if_neg hc2, if_neg hc3, if_neg hc4, if_neg hc5, show m0 s (p + 2) + 1 = m0 s p + k by omega]; done) | (rw [memR, if_neg hc1, if_neg hc2, if_neg hc3, if_neg hc4, if_neg hc5, show m0 s (p + 2) + 1 = m0 s p + k by omega]; rfl)
      refine tr_pre (E' := (7, none, vint .i64 (((memR s p first).2.1 : Nat) : Int)) :: [(6, none, .ref 0 []), (7, none, vint .i64 (((p + 1) : Nat) : Int)), (8, none, vbool first)]) (H' := [.box (.p ((eA eB 1 37) ((memR s p first).1)))]) (fun A_ W_ hS => sl_set_imp (d := vint .i64 (((p + 1) : Nat) : Int)) 7 (vint .i64 (((memR s p first).2.1 : Nat) : Int)) (by kernel_rfl) ?_ hS) ?_
      · refine imp_eq (congrArg (fun x => D.p (eI x)) (a₁ := (((p + 1) : Nat) : Int)) (a₂ := (((memR s p first).2.1 : Nat) : Int)) ?_)
        first | (rw [memR, if_pos hc1]; done) | (rw [memR, if_pos hc1]; rfl) | (rw [memR, if_neg hc1, if_pos hc2]; done) | (rw [memR, if_neg hc1, if_pos hc2]; rfl) | (rw [memR, if_neg hc1, if_neg hc2, if_pos hc3]; done) | (rw [memR, if_neg hc1, if_neg hc2, if_pos hc3]; rfl) | (rw [memR, if_neg hc1, if_neg hc2, if_neg hc3, if_pos hc4]; done) | (rw [memR, if_neg hc1, if_neg hc2, if_neg hc3, if_pos hc4]; rfl) | (rw [memR, if_neg hc1, if_neg hc2, if_neg hc3, if_neg hc4, if_pos hc5]; done) | (rw [memR, if_neg hc1, if_neg hc2, if_neg hc3, if_neg hc4, if_pos hc5]; rfl) | (rw [memR, if_neg hc1, if_neg hc2, if_neg hc3, if_neg hc4, if_neg hc5, show m0 s (p + 2) + 1 = m0 s p + k by omega]; done) | (rw [memR, if_neg hc1, if_neg hc2, if_neg hc3, if_neg hc4, if_neg hc5, show m0 s (p + 2) + 1 = m0 s p + k by omega]; rfl)
      refine tr_pre (E' := [(6, none, .ref 0 []), (7, none, vint .i64 (((memR s p first).2.1 : Nat) : Int)), (8, none, vbool first)]) (H' := [.box (.p ((eA eB 1 37) ((memR s p first).1)))]) (fun A_ W_ hS => sl_proj (ts := [6, 7, 8]) (by kernel_rfl) hS) ?_
      refine tr_pre (E' := (8, none, vbool ((memR s p first).2.2)) :: [(6, none, .ref 0 []), (7, none, vint .i64 (((memR s p first).2.1 : Nat) : Int)), (8, none, vbool first)]) (H' := [.box (.p ((eA eB 1 37) ((memR s p first).1)))]) (fun A_ W_ hS => sl_set_imp (d := vbool first) 8 (vbool ((memR s p first).2.2)) (by kernel_rfl) ?_ hS) ?_
      · refine imp_eq (congrArg (fun x => D.p (eB x)) (a₁ := first) (a₂ := ((memR s p first).2.2)) ?_)
        first | (rw [memR, if_pos hc1]; done) | (rw [memR, if_pos hc1]; rfl) | (rw [memR, if_neg hc1, if_pos hc2]; done) | (rw [memR, if_neg hc1, if_pos hc2]; rfl) | (rw [memR, if_neg hc1, if_neg hc2, if_pos hc3]; done) | (rw [memR, if_neg hc1, if_neg hc2, if_pos hc3]; rfl) | (rw [memR, if_neg hc1, if_neg hc2, if_neg hc3, if_pos hc4]; done) | (rw [memR, if_neg hc1, if_neg hc2, if_neg hc3, if_pos hc4]; rfl) | (rw [memR, if_neg hc1, if_neg hc2, if_neg hc3, if_neg hc4, if_pos hc5]; done) | (rw [memR, if_neg hc1, if_neg hc2, if_neg hc3, if_neg hc4, if_pos hc5]; rfl) | (rw [memR, if_neg hc1, if_neg hc2, if_neg hc3, if_neg hc4, if_neg hc5, show m0 s (p + 2) + 1 = m0 s p + k by omega]; done) | (rw [memR, if_neg hc1, if_neg hc2, if_neg hc3, if_neg hc4, if_neg hc5, show m0 s (p + 2) + 1 = m0 s p + k by omega]; rfl)
      refine tr_pre (E' := [(6, none, .ref 0 []), (7, none, vint .i64 (((memR s p first).2.1 : Nat) : Int)), (8, none, vbool ((memR s p first).2.2))]) (H' := [.box (.p ((eA eB 1 37) ((memR s p first).1)))]) (fun A_ W_ hS => sl_proj (ts := [6, 7, 8]) (by kernel_rfl) hS) ?_
      exact tr_return' (vc := []) (ds := [.p ((eA eB 1 37) ((memR s p first).1)), vint .i64 (((memR s p first).2.1 : Nat) : Int), vbool ((memR s p first).2.2)]) (by kernel_rfl) trivial (by kernel_rfl) (fun _ _ h => h)
    · skip
      refine tr_skip ?_
      refine tr_then (tr_seq ?_)
      refine tr_seq ?_
      refine tr_r (vc := [(IntKind.wrap .i64 (((p : Nat) : Int) + 1)) = (((p + 1) : Nat) : Int), (!(decide (((s.length : Nat) : Int) ≤ (((p + 1) : Nat) : Int)))) = true → (!(decide (((s.length : Nat) : Int) ≤ (((p + 1) : Nat) : Int)))) = true, (!(decide (((s.length : Nat) : Int) ≤ (((p + 1) : Nat) : Int)))) = true → ((IntKind.wrap .i64 (((p : Nat) : Int) + 1)) = (((p + 1) : Nat) : Int)), (!(decide (((s.length : Nat) : Int) ≤ (((p + 1) : Nat) : Int)))) = true → (!(decide (((s.length : Nat) : Int) ≤ (((p + 1) : Nat) : Int)))) = true, (!(decide (((s.length : Nat) : Int) ≤ (((p + 1) : Nat) : Int)))) = true → (!(decide (((s.length : Nat) : Int) ≤ (((p + 1) : Nat) : Int)))) = true, (!(decide (((s.length : Nat) : Int) ≤ (((p + 1) : Nat) : Int)))) = true → ((0 : Int) ≤ (((p + 1) : Nat) : Int)), (!(decide (((s.length : Nat) : Int) ≤ (((p + 1) : Nat) : Int)))) = true → ((((p + 1) : Nat) : Int) < (s.length : Int)), (!(decide (((s.length : Nat) : Int) ≤ (((p + 1) : Nat) : Int)))) = true → (!(decide (((s.length : Nat) : Int) ≤ (((p + 1) : Nat) : Int)))) = true, (!(decide (((s.length : Nat) : Int) ≤ (((p + 1) : Nat) : Int)))) = true → (!(decide (((s.length : Nat) : Int) ≤ (((p + 1) : Nat) : Int)))) = true]) (E' := [(0, none, vstr s), (1, none, vint .i64 ((p : Nat) : Int)), (6, none, .ref 0 []), (9, none, .ref 1 []), (10, none, vint .i64 (m0 s p)), (40, none, vbool ((decide (((s.length : Nat) : Int) ≤ (((p + 1) : Nat) : Int))) || (((s.getD (p + 1) 0).toNat : Int) != 45)))]) (H' := [.box (.p ((eA eB 1 37) (fun _ => false))), .box (.p ((eA eB 1 37) (upd (fun _ => false) ((m0 s p).toNat) true)))]) [(1, vint .i64 (((p + 1) : Nat) : Int)), (8, vint .i64 (((p + 1) : Nat) : Int))] [] [0, 1, 6, 9, 10, 40] (by kernel_rfl) ?_ ?_
      · refine al ?_ (al ?_ (al ?_ (al ?_ (al ?_ (al ?_ (al ?_ (al ?_ (al ?_ (trivial)))))))))
        · exact wr64 (by omega) (by omega) (by omega)
        · exact id
        · intro _; exact wr64 (by omega) (by omega) (by omega)
        · exact id
        · exact id
        · omega
        · (intro hg; simp at hg; omega)
        · exact id
        · exact id
      refine tr_then ?_
      refine tr_condP ((decide (((s.length : Nat) : Int) ≤ (((p + 1) : Nat) : Int))) || (((s.getD (p + 1) 0).toNat : Int) != 45)) ((((s.length : Nat) : Int) ≤ (((p + 1) : Nat) : Int)) ∨ (((s.getD (p + 1) 0).toNat : Int) ≠ 45)) (by simp) (by kernel_rfl) (fun hc3 => ?_) (fun hc3 => ?_)
      · skip
        refine tr_seq ?_
        refine tr_r (vc := [(IntKind.wrap .i64 (((p : Nat) : Int) + 1)) = (((p + 1) : Nat) : Int)]) (E' := [(6, none, .ref 0 []), (7, none, vint .i64 (((p + 1) : Nat) : Int)), (8, none, vbool true)]) (H' := [.box (.p ((eA eB 1 37) (upd (fun _ => false) ((m0 s p).toNat) true))), .box (.p ((eA eB 1 37) (upd (fun _ => false) ((m0 s p).toNat) true)))]) [(2, vint .i64 (((p + 1) : Nat) : Int))] [] [6, 7, 8] (by kernel_rfl) ?_ ?_
        · refine al ?_ (trivial)
          · exact wr64 (by omega) (by omega) (by omega)
        refine tr_then ?_
        refine tr_pre (E' := [(6, none, .ref 0 []), (7, none, vint .i64 (((p + 1) : Nat) : Int)), (8, none, vbool true)]) (H' := [.box (.p ((eA eB 1 37) (upd (fun _ => false) ((m0 s p).toNat) true)))]) (fun A_ W_ hS => sl_weak (vc := []) [0] [6, 7, 8] (by kernel_rfl) trivial hS) ?_
        refine tr_pre (E' := [(6, none, .ref 0 []), (7, none, vint .i64 (((p + 1) : Nat) : Int)), (8, none, vbool true)]) (H' := [.box (.p ((eA eB 1 37) ((memR s p first).1)))]) (fun A_ W_ hS => sl_obj_imp (d := .p ((eA eB 1 37) (upd (fun _ => false) ((m0 s p).toNat) true))) 0 (.p ((eA eB 1 37) ((memR s p first).1))) (by kernel_rfl) ?_ hS) ?_
        · refine impC_eq (congrArg (fun x => D.p ((eA eB 1 37) x)) (a₁ := (upd (fun _ => false) ((m0 s p).toNat) true)) (a₂ := ((memR s p first).1)) ?_)
          first | (rw [memR, if_pos hc1]; done) | (rw [memR, if_pos hc1]; rfl) | (rw [memR, if_neg hc1, if_pos hc2]; done) | (rw [memR, if_neg hc1, if_pos hc2]; rfl) | (rw [memR, if_neg hc1, if_neg hc2, if_pos hc3]; done) | (rw [memR, if_neg hc1, if_neg hc2, if_pos hc3]; rfl) | (rw [memR, if_neg hc1, if_neg hc2, if_neg hc3, if_pos hc4]; done) | (rw [memR, if_neg hc1, if_neg hc2, if_neg hc3, if_pos hc4]; rfl) | (rw [memR, if_neg hc1, if_neg hc2, if_neg hc3, if_neg hc4, if_pos hc5]; done) | (rw [memR, if_neg hc1, if_neg hc2, if_neg hc3, if_neg hc4, if_pos hc5]; rfl) | (rw [memR, if_neg hc1, if_neg hc2, if_neg hc3, if_neg hc4, if_neg hc5, show m0 s (p + 2) + 1 = m0 s p + k by omega]; done) | (rw [memR, if_neg hc1, if_neg hc2, if_neg hc3, if_neg hc4, if_neg hc5, show m0 s (p + 2) + 1 = m0 s p + k by omega]; rfl)
        refine tr_pre (E' := (7, none, vint .i64 (((memR s p first).2.1 : Nat) : Int)) :: [(6, none, .ref 0 []), (7, none, vint .i64 (((p + 1) : Nat) : Int)), (8, none, vbool true)]) (H' := [.box (.p ((eA eB 1 37) ((memR s p first).1)))]) (fun A_ W_ hS => sl_set_imp (d := vint .i64 (((p + 1) : Nat) : Int)) 7 (vint .i64 (((memR s p first).2.1 : Nat) : Int)) (by kernel_rfl) ?_ hS) ?_
        · refine imp_eq (congrArg (fun x => D.p (eI x)) (a₁ := (((p + 1) : Nat) : Int)) (a₂ := (((memR s p first).2.1 : Nat) : Int)) ?_)
          first | (rw [memR, if_pos hc1]; done) | (rw [memR, if_pos hc1]; rfl) | (rw [memR, if_neg hc1, if_pos hc2]; done) | (rw [memR, if_neg hc1, if_pos hc2]; rfl) | (rw [memR, if_neg hc1, if_neg hc2, if_pos hc3]; done) | (rw [memR, if_neg hc1, if_neg hc2, if_pos hc3]; rfl) | (rw [memR, if_neg hc1, if_neg hc2, if_neg hc3, if_pos hc4]; done) | (rw [memR, if_neg hc1, if_neg hc2, if_neg hc3, if_pos hc4]; rfl) | (rw [memR, if_neg hc1, if_neg hc2, if_neg hc3, if_neg hc4, if_pos hc5]; done) | (rw [memR, if_neg hc1, if_neg hc2, if_neg hc3, if_neg hc4, if_pos hc5]; rfl) | (rw [memR, if_neg hc1, if_neg hc2, if_neg hc3, if_neg hc4, if_neg hc5, show m0 s (p + 2) + 1 = m0 s p + k by omega]; done) | (rw [memR, if_neg hc1, if_neg hc2, if_neg hc3, if_neg hc4, if_neg hc5, show m0 s (p + 2) + 1 = m0 s p + k by omega]; rfl)
        refine tr_pre (E' := [(6, none, .ref 0 []), (7, none, vint .i64 (((memR s p first).2.1 : Nat) : Int)), (8, none, vbool true)]) (H' := [.box (.p ((eA eB 1 37) ((memR s p first).1)))]) (fun A_ W_ hS => sl_proj (ts := [6, 7, 8]) (by kernel_rfl) hS) ?_
        refine tr_pre (E' := (8, none, vbool ((memR s p first).2.2)) :: [(6, none, .ref 0 []), (7, none, vint .i64 (((memR s p first).2.1 : Nat) : Int)), (8, none, vbool true)]) (H' := [.box (.p ((eA eB 1 37) ((memR s p first).1)))]) (fun A_ W_ hS => sl_set_imp (d := vbool true) 8 (vbool ((memR s p first).2.2)) (by kernel_rfl) ?_ hS) ?_
        · refine imp_eq (congrArg (fun x => D.p (eB x)) (a₁ := true) (a₂ := ((memR s p first).2.2)) ?_)
          first | (rw [memR, if_pos hc1]; done) | (rw [memR, if_pos hc1]; rfl) | (rw [memR, if_neg hc1, if_pos hc2]; done) | (rw [memR, if_neg hc1, if_pos hc2]; rfl) | (rw [memR, if_neg hc1, if_neg hc2, if_pos hc3]; done) | (rw [memR, if_neg hc1, if_neg hc2, if_pos hc3]; rfl) | (rw [memR, if_neg hc1, if_neg hc2, if_neg hc3, if_pos hc4]; done) | (rw [memR, if_neg hc1, if_neg hc2, if_neg hc3, if_pos hc4]; rfl) | (rw [memR, if_neg hc1, if_neg hc2, if_neg hc3, if_neg hc4, if_pos hc5]; done) | (rw [memR, if_neg hc1, if_neg hc2, if_neg hc3, if_neg hc4, if_pos hc5]; rfl) | (rw [memR, if_neg hc1, if_neg hc2, if_neg hc3, if_neg hc4, if_neg hc5, show m0 s (p + 2) + 1 = m0 s p + k by omega]; done) | (rw [memR, if_neg hc1, if_neg hc2, if_neg hc3, if_neg hc4, if_neg hc5, show m0 s (p + 2) + 1 = m0 s p + k by omega]; rfl)
        refine tr_pre (E' := [(6, none, .ref 0 []), (7, none, vint .i64 (((memR s p first).2.1 : Nat) : Int)), (8, none, vbool ((memR s p first).2.2))]) (H' := [.box (.p ((eA eB 1 37) ((memR s p first).1)))]) (fun A_ W_ hS => sl_proj (ts := [6, 7, 8]) (by kernel_rfl) hS) ?_
        exact tr_return' (vc := []) (ds := [.p ((eA eB 1 37) ((memR s p first).1)), vint .i64 (((memR s p first).2.1 : Nat) : Int), vbool ((memR s p first).2.2)]) (by kernel_rfl) trivial (by kernel_rfl) (fun _ _ h => h)
      · skip
        refine tr_skip ?_
        refine tr_then (tr_seq ?_)
        refine tr_seq ?_
        refine tr_r (vc := [(IntKind.wrap .i64 (((p : Nat) : Int) + 2)) = (((p + 2) : Nat) : Int)]) (E' := [(0, none, vstr s), (1, none, vint .i64 ((p : Nat) : Int)), (6, none, .ref 0 []), (9, none, .ref 1 []), (10, none, vint .i64 (m0 s p)), (48, none, vbool (decide (((s.length : Nat) : Int) ≤ (((p + 2) : Nat) : Int))))]) (H' := [.box (.p ((eA eB 1 37) (fun _ => false))), .box (.p ((eA eB 1 37) (upd (fun _ => false) ((m0 s p).toNat) true)))]) [(1, vint .i64 (((p + 2) : Nat) : Int))] [] [0, 1, 6, 9, 10, 48] (by kernel_rfl) ?_ ?_
        · refine al ?_ (trivial)
          · exact wr64 (by omega) (by omega) (by omega)
        refine tr_then ?_
        refine tr_condP (decide (((s.length : Nat) : Int) ≤ (((p + 2) : Nat) : Int))) (((s.length : Nat) : Int) ≤ (((p + 2) : Nat) : Int)) (by simp) (by kernel_rfl) (fun hc4 => ?_) (fun hc4 => ?_)
        · skip
          refine tr_seq ?_
          refine tr_r (vc := []) (E' := [(6, none, .ref 0 []), (7, none, vint .i64 ((p : Nat) : Int)), (8, none, vbool false)]) (H' := [.box (.p ((eA eB 1 37) (upd (fun _ => false) ((m0 s p).toNat) true))), .box (.p ((eA eB 1 37) (upd (fun _ => false) ((m0 s p).toNat) true)))]) [] [] [6, 7, 8] (by kernel_rfl) ?_ ?_
          · exact trivial
          refine tr_then ?_
          refine tr_pre (E' := [(6, none, .ref 0 []), (7, none, vint .i64 ((p : Nat) : Int)), (8, none, vbool false)]) (H' := [.box (.p ((eA eB 1 37) (upd (fun _ => false) ((m0 s p).toNat) true)))]) (fun A_ W_ hS => sl_weak (vc := []) [0] [6, 7, 8] (by kernel_rfl) trivial hS) ?_
          refine tr_pre (E' := [(6, none, .ref 0 []), (7, none, vint .i64 ((p : Nat) : Int)), (8, none, vbool false)]) (H' := [.box (.p ((eA eB 1 37) ((memR s p first).1)))]) (fun A_ W_ hS => sl_obj_imp (d := .p ((eA eB 1 37) (upd (fun _ => false) ((m0 s p).toNat) true))) 0 (.p ((eA eB 1 37) ((memR s p first).1))) (by kernel_rfl) ?_ hS) ?_
          · refine impC_eq (congrArg (fun x => D.p ((eA eB 1 37) x)) (a₁ := (upd (fun _ => false) ((m0 s p).toNat) true)) (a₂ := ((memR s p first).1)) ?_)
            first | (rw [memR, if_pos hc1]; done) | (rw [memR, if_pos hc1]; rfl) | (rw [memR, if_neg hc1, if_pos hc2]; done) | (rw [memR, if_neg hc1, if_pos hc2]; rfl) | (rw [memR, if_neg hc1, if_neg hc2, if_pos hc3]; done) | (rw [memR, if_neg hc1, if_neg hc2, if_pos hc3]; rfl) | (rw [memR, if_neg hc1, if_neg hc2, if_neg hc3, if_pos hc4]; done) | (rw [memR, if_neg hc1, if_neg hc2, if_neg hc3, if_pos hc4]; rfl) | (rw [memR, if_neg hc1, if_neg hc2, if_neg hc3, if_neg hc4, if_pos hc5]; done) | (rw [memR, if_neg hc1, if_neg hc2, if_neg hc3, if_neg hc4, if_pos hc5]; rfl) | (rw [memR, if_neg hc1, if_neg hc2, if_neg hc3, if_neg hc4, if_neg hc5, show m0 s (p + 2) + 1 = m0 s p + k by omega]; done) | (rw [memR, if_neg hc1, if_neg hc2, if_neg hc3, if_neg hc4, if_neg hc5, show m0 s (p + 2) + 1 = m0 s p + k by omega]; rfl)
          refine tr_pre (E' := (7, none, vint .i64 (((memR s p first).2.1 : Nat) : Int)) :: [(6, none, .ref 0 []), (7, none, vint .i64 ((p : Nat) : Int)), (8, none, vbool false)]) (H' := [.box (.p ((eA eB 1 37) ((memR s p first).1)))]) (fun A_ W_ hS => sl_set_imp (d := vint .i64 ((p : Nat) : Int)) 7 (vint .i64 (((memR s p first).2.1 : Nat) : Int)) (by kernel_rfl) ?_ hS) ?_
          · refine imp_eq (congrArg (fun x => D.p (eI x)) (a₁ := ((p : Nat) : Int)) (a₂ := (((memR s p first).2.1 : Nat) : Int)) ?_)
            first | (rw [memR, if_pos hc1]; done) | (rw [memR, if_pos hc1]; rfl) | (rw [memR, if_neg hc1, if_pos hc2]; done) | (rw [memR, if_neg hc1, if_pos hc2]; rfl) | (rw [memR, if_neg hc1, if_neg hc2, if_pos hc3]; done) | (rw [memR, if_neg hc1, if_neg hc2, if_pos hc3]; rfl) | (rw [memR, if_neg hc1, if_neg hc2, if_neg hc3, if_pos hc4]; done) | (rw [memR, if_neg hc1, if_neg hc2, if_neg hc3, if_pos hc4]; rfl) | (rw [memR, if_neg hc1, if_neg hc2, if_neg hc3, if_neg hc4, if_pos hc5]; done) | (rw [memR, if_neg hc1, if_neg hc2, if_neg hc3, if_neg hc4, if_pos hc5]; rfl) | (rw [memR, if_neg hc1, if_neg hc2, if_neg hc3, if_neg hc4, if_neg hc5, show m0 s (p + 2) + 1 = m0 s p + k by omega]; done) | (rw [memR, if_neg hc1, if_neg hc2, if_neg hc3, if_neg hc4, if_neg hc5, show m0 s (p + 2) + 1 = m0 s p + k by omega]; rfl)
          refine tr_pre (E' := [(6, none, .ref 0 []), (7, none, vint .i64 (((memR s p first).2.1 : Nat) : Int)), (8, none, vbool false)]) (H' := [.box (.p ((eA eB 1 37) ((memR s p first).1)))]) (fun A_ W_ hS => sl_proj (ts := [6, 7, 8]) (by kernel_rfl) hS) ?_
          refine tr_pre (E' := (8, none, vbool ((memR s p first).2.2)) :: [(6, none, .ref 0 []), (7, none, vint .i64 (((memR s p first).2.1 : Nat) : Int)), (8, none, vbool false)]) (H' := [.box (.p ((eA eB 1 37) ((memR s p first).1)))]) (fun A_ W_ hS => sl_set_imp (d := vbool false) 8 (vbool ((memR s p first).2.2)) (by kernel_rfl) ?_ hS) ?_
          · refine imp_eq (congrArg (fun x => D.p (eB x)) (a₁ := false) (a₂ := ((memR s p first).2.2)) ?_)
            first | (rw [memR, if_pos hc1]; done) | (rw [memR, if_pos hc1]; rfl) | (rw [memR, if_neg hc1, if_pos hc2]; done) | (rw [memR, if_neg hc1, if_pos hc2]; rfl) | (rw [memR, if_neg hc1, if_neg hc2, if_pos hc3]; done) | (rw [memR, if_neg hc1, if_neg hc2, if_pos hc3]; rfl) | (rw [memR, if_neg hc1, if_neg hc2, if_neg hc3, if_pos hc4]; done) | (rw [memR, if_neg hc1, if_neg hc2, if_neg hc3, if_pos hc4]; rfl) | (rw [memR, if_neg hc1, if_neg hc2, if_neg hc3, if_neg hc4, if_pos hc5]; done) | (rw [memR, if_neg hc1, if_neg hc2, if_neg hc3, if_neg hc4, if_pos hc5]; rfl) | (rw [memR, if_neg hc1, if_neg hc2, if_neg hc3, if_neg hc4, if_neg hc5, show m0 s (p + 2) + 1 = m0 s p + k by omega]; done) | (rw [memR, if_neg hc1, if_neg hc2, if_neg hc3, if_neg hc4, if_neg hc5, show m0 s (p + 2) + 1 = m0 s p + k by omega]; rfl)
          refine tr_pre (E' := [(6, none, .ref 0 []), (7, none, vint .i64 (((memR s p first).2.1 : Nat) : Int)), (8, none, vbool ((memR s p first).2.2))]) (H' := [.box (.p ((eA eB 1 37) ((memR s p first).1)))]) (fun A_ W_ hS => sl_proj (ts := [6, 7, 8]) (by kernel_rfl) hS) ?_
          exact tr_return' (vc := []) (ds := [.p ((eA eB 1 37) ((memR s p first).1)), vint .i64 (((memR s p first).2.1 : Nat) : Int), vbool ((memR s p first).2.2)]) (by kernel_rfl) trivial (by kernel_rfl) (fun _ _ h => h)
        · skip
          refine tr_skip ?_
          refine tr_then (tr_seq ?_)
          refine tr_r (vc := [(IntKind.wrap .i64 (((p : Nat) : Int) + 2)) = (((p + 2) : Nat) : Int), (0 : Int) ≤ (((p + 2) : Nat) : Int), (((p + 2) : Nat) : Int) < (s.length : Int), Pure Try.prog 43 [.v (.int .u8 ((s.getD (p + 2) 0).toNat : Int))] (vint .i64 (sym ((s.getD (p + 2) 0).toNat : Int))), (sym ((s.getD (p + 2) 0).toNat : Int)) = (m0 s (p + 2))]) (E' := [(1, none, vint .i64 ((p : Nat) : Int)), (6, none, .ref 0 []), (9, none, .ref 1 []), (10, none, vint .i64 (m0 s p)), (11, none, vint .i64 (m0 s (p + 2)))]) (H' := [.box (.p ((eA eB 1 37) (fun _ => false))), .box (.p ((eA eB 1 37) (upd (fun _ => false) ((m0 s p).toNat) true)))]) [(2, vint .i64 (((p + 2) : Nat) : Int)), (5, vint .i64 (m0 s (p + 2)))] [(4, vint .i64 (sym ((s.getD (p + 2) 0).toNat : Int)))] [1, 6, 9, 10, 11] (by kernel_rfl) ?_ ?_
          · refine al ?_ (al ?_ (al ?_ (al ?_ (al ?_ (trivial)))))
            · exact wr64 (by omega) (by omega) (by omega)
            · omega
            · omega
            · first | exact refSymbolB_ok _ | exact refSymbol_ok _ (by omega) (by omega)
            · omega
          refine tr_then (tr_seq ?_)
          refine tr_seq ?_
          refine tr_r (vc := [(!(decide ((m0 s (p + 2)) < (m0 s p)))) = true → (!(decide ((m0 s (p + 2)) < (m0 s p)))) = true, (!(decide ((m0 s (p + 2)) < (m0 s p)))) = true → (!(decide ((m0 s (p + 2)) < (m0 s p)))) = true, (!((decide ((m0 s (p + 2)) < (m0 s p))) || ((m0 s (p + 2)) == 36))) = true → (!((decide ((m0 s (p + 2)) < (m0 s p))) || ((m0 s (p + 2)) == 36))) = true, (!((decide ((m0 s (p + 2)) < (m0 s p))) || ((m0 s (p + 2)) == 36))) = true → (!((decide ((m0 s (p + 2)) < (m0 s p))) || ((m0 s (p + 2)) == 36))) = true, ((!((decide ((m0 s (p + 2)) < (m0 s p))) || ((m0 s (p + 2)) == 36))) && (decide ((m0 s p) < 26))) = true → ((!((decide ((m0 s (p + 2)) < (m0 s p))) || ((m0 s (p + 2)) == 36))) && (decide ((m0 s p) < 26))) = true, (!((decide ((m0 s (p + 2)) < (m0 s p))) || ((m0 s (p + 2)) == 36))) = true → ((!((decide ((m0 s (p + 2)) < (m0 s p))) || ((m0 s (p + 2)) == 36))) = true → (!((decide ((m0 s (p + 2)) < (m0 s p))) || ((m0 s (p + 2)) == 36))) = true), ((!((decide ((m0 s (p + 2)) < (m0 s p))) || ((m0 s (p + 2)) == 36))) && (decide ((m0 s p) < 26))) = true → ((!((decide ((m0 s (p + 2)) < (m0 s p))) || ((m0 s (p + 2)) == 36))) && (decide ((m0 s p) < 26))) = true, (!((decide ((m0 s (p + 2)) < (m0 s p))) || ((m0 s (p + 2)) == 36))) = true → (!((decide ((m0 s (p + 2)) < (m0 s p))) || ((m0 s (p + 2)) == 36))) = true]) (E' := [(1, none, vint .i64 ((p : Nat) : Int)), (6, none, .ref 0 []), (9, none, .ref 1 []), (10, none, vint .i64 (m0 s p)), (11, none, vint .i64 (m0 s (p + 2))), (70, none, vbool (((decide ((m0 s (p + 2)) < (m0 s p))) || ((m0 s (p + 2)) == 36)) || ((decide ((m0 s p) < 26)) && (decide (26 ≤ (m0 s (p + 2)))))))]) (H' := [.box (.p ((eA eB 1 37) (fun _ => false))), .box (.p ((eA eB 1 37) (upd (fun _ => false) ((m0 s p).toNat) true)))]) [] [] [1, 6, 9, 10, 11, 70] (by kernel_rfl) ?_ ?_
          · refine al ?_ (al ?_ (al ?_ (al ?_ (al ?_ (al ?_ (al ?_ (al ?_ (trivial))))))))
            · exact id
            · exact id
            · exact id
            · exact id
            · exact id
            · intro _; exact id
            · exact id
            · exact id
          refine tr_then ?_
          refine tr_condP (((decide ((m0 s (p + 2)) < (m0 s p))) || ((m0 s (p + 2)) == 36)) || ((decide ((m0 s p) < 26)) && (decide (26 ≤ (m0 s (p + 2)))))) ((((m0 s (p + 2)) < (m0 s p)) ∨ ((m0 s (p + 2)) = 36)) ∨ (((m0 s p) < 26) ∧ (26 ≤ (m0 s (p + 2))))) (by simp) (by kernel_rfl) (fun hc5 => ?_) (fun hc5 => ?_)
          · skip
            refine tr_seq ?_
            refine tr_r (vc := []) (E' := [(6, none, .ref 0 []), (7, none, vint .i64 ((p : Nat) : Int)), (8, none, vbool false)]) (H' := [.box (.p ((eA eB 1 37) (upd (fun _ => false) ((m0 s p).toNat) true))), .box (.p ((eA eB 1 37) (upd (fun _ => false) ((m0 s p).toNat) true)))]) [] [] [6, 7, 8] (by kernel_rfl) ?_ ?_
            · exact trivial
            refine tr_then ?_
            refine tr_pre (E' := [(6, none, .ref 0 []), (7, none, vint .i64 ((p : Nat) : Int)), (8, none, vbool false)]) (H' := [.box (.p ((eA eB 1 37) (upd (fun _ => false) ((m0 s p).toNat) true)))]) (fun A_ W_ hS => sl_weak (vc := []) [0] [6, 7, 8] (by kernel_rfl) trivial hS) ?_
            refine tr_pre (E' := [(6, none, .ref 0 []), (7, none, vint .i64 ((p : Nat) : Int)), (8, none, vbool false)]) (H' := [.box (.p ((eA eB 1 37) ((memR s p first).1)))]) (fun A_ W_ hS => sl_obj_imp (d := .p ((eA eB 1 37) (upd (fun _ => false) ((m0 s p).toNat) true))) 0 (.p ((eA eB 1 37) ((memR s p first).1))) (by kernel_rfl) ?_ hS) ?_
            · refine impC_eq (congrArg (fun x => D.p ((eA eB 1 37) x)) (a₁ := (upd (fun _ => false) ((m0 s p).toNat) true)) (a₂ := ((memR s p first).1)) ?_)
              first | (rw [memR, if_pos hc1]; done) | (rw [memR, if_pos hc1]; rfl) | (rw [memR, if_neg hc1, if_pos hc2]; done) | (rw [memR, if_neg hc1, if_pos hc2]; rfl) | (rw [memR, if_neg hc1, if_neg hc2, if_pos hc3]; done) | (rw [memR, if_neg hc1, if_neg hc2, if_pos hc3]; rfl) | (rw [memR, if_neg hc1, if_neg hc2, if_neg hc3, if_pos hc4]; done) | (rw [memR, if_neg hc1, if_neg hc2, if_neg hc3, if_pos hc4]; rfl) | (rw [memR, if_neg hc1, if_neg hc2, if_neg hc3, if_neg hc4, if_pos hc5]; done) | (rw [memR, if_neg hc1, if_neg hc2, if_neg hc3, if_neg hc4, if_pos hc5]; rfl) | (rw [memR, if_neg hc1, if_neg hc2, if_neg hc3, if_neg hc4, if_neg hc5, show m0 s (p + 2) + 1 = m0 s p + k by omega]; done) | (rw [memR, if_neg hc1, if_neg hc2, if_neg hc3, if_neg hc4, if_neg hc5, show m0 s (p + 2) + 1 = m0 s p + k by omega]; rfl)
            refine tr_pre (E' := (7, none, vint .i64 (((memR s p first).2.1 : Nat) : Int)) :: [(6, none, .ref 0 []), (7, none, vint .i64 ((p : Nat) : Int)), (8, none, vbool false)]) (H' := [.box (.p ((eA eB 1 37) ((memR s p first).1)))]) (fun A_ W_ hS => sl_set_imp (d := vint .i64 ((p : Nat) : Int)) 7 (vint .i64 (((memR s p first).2.1 : Nat) : Int)) (by kernel_rfl) ?_ hS) ?_
            · refine imp_eq (congrArg (fun x => D.p (eI x)) (a₁ := ((p : Nat) : Int)) (a₂ := (((memR s p first).2.1 : Nat) : Int)) ?_)
              first | (rw [memR, if_pos hc1]; done) | (rw [memR, if_pos hc1]; rfl) | (rw [memR, if_neg hc1, if_pos hc2]; done) | (rw [memR, if_neg hc1, if_pos hc2]; rfl) | (rw [memR, if_neg hc1, if_neg hc2, if_pos hc3]; done) | (rw [memR, if_neg hc1, if_neg hc2, if_pos hc3]; rfl) | (rw [memR, if_neg hc1, if_neg hc2, if_neg hc3, if_pos hc4]; done) | (rw [memR, if_neg hc1, if_neg hc2, if_neg hc3, if_pos hc4]; rfl) | (rw [memR, if_neg hc1, if_neg hc2, if_neg hc3, if_neg hc4, if_pos hc5]; done) | (rw [memR, if_neg hc1, if_neg hc2, if_neg hc3, if_neg hc4, if_pos hc5]; rfl) | (rw [memR, if_neg hc1, if_neg hc2, if_neg hc3, if_neg hc4, if_neg hc5, show m0 s (p + 2) + 1 = m0 s p + k by omega]; done) | (rw [memR, if_neg hc1, if_neg hc2, if_neg hc3, if_neg hc4, if_neg hc5, show m0 s (p + 2) + 1 = m0 s p + k by omega]; rfl)
            refine tr_pre (E' := [(6, none, .ref 0 []), (7, none, vint .i64 (((memR s p first).2.1 : Nat) : Int)), (8, none, vbool false)]) (H' := [.box (.p ((eA eB 1 37) ((memR s p first).1)))]) (fun A_ W_ hS => sl_proj (ts := [6, 7, 8]) (by kernel_rfl) hS) ?_
            refine tr_pre (E' := (8, none, vbool ((memR s p first).2.2)) :: [(6, none, .ref 0 []), (7, none, vint .i64 (((memR s p first).2.1 : Nat) : Int)), (8, none, vbool false)]) (H' := [.box (.p ((eA eB 1 37) ((memR s p first).1)))]) (fun A_ W_ hS => sl_set_imp (d := vbool false) 8 (vbool ((memR s p first).2.2)) (by kernel_rfl) ?_ hS) ?_
            · refine imp_eq (congrArg (fun x => D.p (eB x)) (a₁ := false) (a₂ := ((memR s p first).2.2)) ?_)
              first | (rw [memR, if_pos hc1]; done) | (rw [memR, if_pos hc1]; rfl) | (rw [memR, if_neg hc1, if_pos hc2]; done) | (rw [memR, if_neg hc1, if_pos hc2]; rfl) | (rw [memR, if_neg hc1, if_neg hc2, if_pos hc3]; done) | (rw [memR, if_neg hc1, if_neg hc2, if_pos hc3]; rfl) | (rw [memR, if_neg hc1, if_neg hc2, if_neg hc3, if_pos hc4]; done) | (rw [memR, if_neg hc1, if_neg hc2, if_neg hc3, if_pos hc4]; rfl) | (rw [memR, if_neg hc1, if_neg hc2, if_neg hc3, if_neg hc4, if_pos hc5]; done) | (rw [memR, if_neg hc1, if_neg hc2, if_neg hc3, if_neg hc4, if_pos hc5]; rfl) | (rw [memR, if_neg hc1, if_neg hc2, if_neg hc3, if_neg hc4, if_neg hc5, show m0 s (p + 2) + 1 = m0 s p + k by omega]; done) | (rw [memR, if_neg hc1, if_neg hc2, if_neg hc3, if_neg hc4, if_neg hc5, show m0 s (p + 2) + 1 = m0 s p + k by omega]; rfl)
            refine tr_pre (E' := [(6, none, .ref 0 []), (7, none, vint .i64 (((memR s p first).2.1 : Nat) : Int)), (8, none, vbool ((memR s p first).2.2))]) (H' := [.box (.p ((eA eB 1 37) ((memR s p first).1)))]) (fun A_ W_ hS => sl_proj (ts := [6, 7, 8]) (by kernel_rfl) hS) ?_
            exact tr_return' (vc := []) (ds := [.p ((eA eB 1 37) ((memR s p first).1)), vint .i64 (((memR s p first).2.1 : Nat) : Int), vbool ((memR s p first).2.2)]) (by kernel_rfl) trivial (by kernel_rfl) (fun _ _ h => h)
          · skip
            refine tr_skip ?_
            refine tr_then (tr_seq ?_)
            refine tr_seq ?_
            refine tr_r (vc := []) (E' := [(1, none, vint .i64 ((p : Nat) : Int)), (6, none, .ref 0 []), (9, none, .ref 1 []), (11, none, vint .i64 (m0 s (p + 2))), (12, none, vint .i64 (m0 s p))]) (H' := [.box (.p ((eA eB 1 37) (fun _ => false))), .box (.p ((eA eB 1 37) (upd (fun _ => false) ((m0 s p).toNat) true)))]) [] [] [1, 6, 9, 11, 12] (by kernel_rfl) ?_ ?_
            · exact trivial
            refine tr_then ?_
            refine tr_block ?_
            refine tr_loop (α := Nat) (fun z : Nat => (fun (k : Nat) => [(1, none, vint .i64 ((p : Nat) : Int)), (6, none, .ref 0 []), (9, none, .ref 1 []), (11, none, vint .i64 (m0 s (p + 2))), (12, none, vint .i64 (m0 s p + k))]) z) (fun z : Nat => (fun (k : Nat) => [.box (.p ((eA eB 1 37) (fun _ => false))), .box (.p ((eA eB 1 37) (range (memS s p) (m0 s p) (m0 s p + k))))]) z) (fun z : Nat => (fun (k : Nat) => (m0 s p + k ≤ m0 s (p + 2) + 1)) z) (fun z : Nat => (fun (k : Nat) => (m0 s (p + 2) + 1 - m0 s p - k).toNat) z) 0 ?_ ?_ ?_
            · show (m0 s p + 0 ≤ m0 s (p + 2) + 1)
              · omega
            · intro A_ W_ hS
              replace hS := sl_set (d := vint .i64 (m0 s p)) 12 (vint .i64 (m0 s p + 0)) (by kernel_rfl) (eqD_int (by omega)) hS
              replace hS := sl_obj_imp (d := .p ((eA eB 1 37) (upd (fun _ => false) ((m0 s p).toNat) true))) 1 (.p ((eA eB 1 37) (range (memS s p) (m0 s p) (m0 s p + 0)))) (by kernel_rfl) (impC_eq (congrArg (fun x => D.p ((eA eB 1 37) x)) (a₁ := (upd (fun _ => false) ((m0 s p).toNat) true)) (a₂ := (range (memS s p) (m0 s p) (m0 s p + 0))) (by rw [Int.add_zero, range_none]; rfl))) hS
              exact sl_weak (vc := []) [0, 1] [1, 6, 9, 11, 12] (by kernel_rfl) trivial hS
            · intro z hz
              revert z; intro k hz
              have hz : (m0 s p + k ≤ m0 s (p + 2) + 1) := hz
              have hi0_0 := hz
              refine tr_seq ?_
              refine tr_seq ?_
              refine tr_r (vc := []) (E' := [(1, none, vint .i64 ((p : Nat) : Int)), (6, none, .ref 0 []), (9, none, .ref 1 []), (11, none, vint .i64 (m0 s (p + 2))), (12, none, vint .i64 (m0 s p + k)), (76, none, vbool (decide ((m0 s p + k) ≤ (m0 s (p + 2)))))]) (H' := [.box (.p ((eA eB 1 37) (fun _ => false))), .box (.p ((eA eB 1 37) (range (memS s p) (m0 s p) (m0 s p + k))))]) [] [] [1, 6, 9, 11, 12, 76] (by kernel_rfl) ?_ ?_
              · exact trivial
              refine tr_then ?_
              refine tr_condP (decide ((m0 s p + k) ≤ (m0 s (p + 2)))) ((m0 s p + k) ≤ (m0 s (p + 2))) (by simp) (by kernel_rfl) (fun hc6 => ?_) (fun hc6 => ?_)
              · skip
                refine tr_skip ?_
                refine tr_then (tr_seq ?_)
                refine tr_block ?_
                refine tr_r (vc := [(0 : Int) ≤ (m0 s p + k), (m0 s p + k) < (37 : Int), (m0 s p + k).toNat < 37]) (E' := [(1, none, vint .i64 ((p : Nat) : Int)), (6, none, .ref 0 []), (9, none, .ref 1 []), (11, none, vint .i64 (m0 s (p + 2))), (12, none, vint .i64 (m0 s p + k))]) (H' := [.box (.p ((eA eB 1 37) (fun _ => false))), .box (.p (.vec 1 37 (upd (fun i => eB ((range (memS s p) (m0 s p) (m0 s p + k)) i)) ((m0 s p + k).toNat) (.v (.bool true)))))]) [] [] [1, 6, 9, 11, 12] (by kernel_rfl) ?_ ?_
                · refine al ?_ (al ?_ (al ?_ (trivial)))
                  · omega
                  · omega
                  · omega
                refine nm_pre (E' := [(1, none, vint .i64 ((p : Nat) : Int)), (6, none, .ref 0 []), (9, none, .ref 1 []), (11, none, vint .i64 (m0 s (p + 2))), (12, none, vint .i64 (m0 s p + k))]) (H' := [.box (.p ((eA eB 1 37) (fun _ => false))), .box (.p ((eA eB 1 37) (upd (range (memS s p) (m0 s p) (m0 s p + k)) ((m0 s p + k).toNat) true)))]) (fun A_ W_ hS => sl_obj (o := .box (.p (.vec 1 37 (upd (fun i => eB ((range (memS s p) (m0 s p) (m0 s p + k)) i)) ((m0 s p + k).toNat) (.v (.bool true)))))) 1 (.box (.p ((eA eB 1 37) (upd (range (memS s p) (m0 s p) (m0 s p + k)) ((m0 s p + k).toNat) true)))) (by kernel_rfl) (by exact congrArg (fun y => O.box (D.p y)) (vec_upd (e := eB) (f := (range (memS s p) (m0 s p) (m0 s p + k))) (k := ((m0 s p + k).toNat)) (x := true))) hS) ?_
                refine in_n ?_
                refine tr_then ?_
                refine tr_r (vc := [(IntKind.wrap .i64 ((m0 s p + k) + 1)) = ((m0 s p + k) + 1)]) (E' := [(1, none, vint .i64 ((p : Nat) : Int)), (6, none, .ref 0 []), (9, none, .ref 1 []), (11, none, vint .i64 (m0 s (p + 2))), (12, none, vint .i64 ((m0 s p + k) + 1))]) (H' := [.box (.p ((eA eB 1 37) (fun _ => false))), .box (.p ((eA eB 1 37) (upd (range (memS s p) (m0 s p) (m0 s p + k)) ((m0 s p + k).toNat) true)))]) [(1, vint .i64 ((m0 s p + k) + 1))] [] [1, 6, 9, 11, 12] (by kernel_rfl) ?_ ?_
                · refine al ?_ (trivial)
                  · exact wr64 (by omega) (by omega) (by omega)
                refine lp_end (k + 1) ?_ ?_ ?_
                · show (m0 s p + (k + 1) ≤ m0 s (p + 2) + 1)
                  · omega
                · show (m0 s (p + 2) + 1 - m0 s p - (k + 1)).toNat < (m0 s (p + 2) + 1 - m0 s p - k).toNat
                  omega
                · intro A_ W_ hS
                  replace hS := sl_set (d := vint .i64 ((m0 s p + k) + 1)) 12 (vint .i64 (m0 s p + (k + 1))) (by kernel_rfl) (eqD_int (by omega)) hS
                  replace hS := sl_obj_imp (d := .p ((eA eB 1 37) (upd (range (memS s p) (m0 s p) (m0 s p + k)) ((m0 s p + k).toNat) true))) 1 (.p ((eA eB 1 37) (range (memS s p) (m0 s p) (m0 s p + (k + 1))))) (by kernel_rfl) (impC_eq (congrArg (fun x => D.p ((eA eB 1 37) x)) (a₁ := (upd (range (memS s p) (m0 s p) (m0 s p + k)) ((m0 s p + k).toNat) true)) (a₂ := (range (memS s p) (m0 s p) (m0 s p + (k + 1)))) (by rw [← Int.add_assoc]; exact range_step _ _ _ (by omega) (by omega)))) hS
                  exact sl_weak (vc := []) [0, 1] [1, 6, 9, 11, 12] (by kernel_rfl) trivial hS
              · skip
                refine tr_exit ?_
                refine th_e ?_
                refine th_e ?_
                refine in_hit ?_
                refine tr_then (tr_seq ?_)
                refine tr_r (vc := [(IntKind.wrap .i64 (((p : Nat) : Int) + 3)) = (((p + 3) : Nat) : Int)]) (E' := [(6, none, .ref 0 []), (7, none, vint .i64 (((p + 3) : Nat) : Int)), (8, none, vbool true)]) (H' := [.box (.p ((eA eB 1 37) (range (memS s p) (m0 s p) (m0 s p + k)))), .box (.p ((eA eB 1 37) (range (memS s p) (m0 s p) (m0 s p + k))))]) [(2, vint .i64 (((p + 3) : Nat) : Int))] [] [6, 7, 8] (by kernel_rfl) ?_ ?_
                · refine al ?_ (trivial)
                  · exact wr64 (by omega) (by omega) (by omega)
                refine tr_then ?_
                refine tr_pre (E' := [(6, none, .ref 0 []), (7, none, vint .i64 (((p + 3) : Nat) : Int)), (8, none, vbool true)]) (H' := [.box (.p ((eA eB 1 37) (range (memS s p) (m0 s p) (m0 s p + k))))]) (fun A_ W_ hS => sl_weak (vc := []) [0] [6, 7, 8] (by kernel_rfl) trivial hS) ?_
                refine tr_pre (E' := [(6, none, .ref 0 []), (7, none, vint .i64 (((p + 3) : Nat) : Int)), (8, none, vbool true)]) (H' := [.box (.p ((eA eB 1 37) ((memR s p first).1)))]) (fun A_ W_ hS => sl_obj_imp (d := .p ((eA eB 1 37) (range (memS s p) (m0 s p) (m0 s p + k)))) 0 (.p ((eA eB 1 37) ((memR s p first).1))) (by kernel_rfl) ?_ hS) ?_
                · refine impC_eq (congrArg (fun x => D.p ((eA eB 1 37) x)) (a₁ := (range (memS s p) (m0 s p) (m0 s p + k))) (a₂ := ((memR s p first).1)) ?_)
                  first | (rw [memR, if_pos hc1]; done) | (rw [memR, if_pos hc1]; rfl) | (rw [memR, if_neg hc1, if_pos hc2]; done) | (rw [memR, if_neg hc1, if_pos hc2]; rfl) | (rw [memR, if_neg hc1, if_neg hc2, if_pos hc3]; done) | (rw [memR, if_neg hc1, if_neg hc2, if_pos hc3]; rfl) | (rw [memR, if_neg hc1, if_neg hc2, if_neg hc3, if_pos hc4]; done) | (rw [memR, if_neg hc1, if_neg hc2, if_neg hc3, if_pos hc4]; rfl) | (rw [memR, if_neg hc1, if_neg hc2, if_neg hc3, if_neg hc4, if_pos hc5]; done) | (rw [memR, if_neg hc1, if_neg hc2, if_neg hc3, if_neg hc4, if_pos hc5]; rfl) | (rw [memR, if_neg hc1, if_neg hc2, if_neg hc3, if_neg hc4, if_neg hc5, show m0 s (p + 2) + 1 = m0 s p + k by omega]; done) | (rw [memR, if_neg hc1, if_neg hc2, if_neg hc3, if_neg hc4, if_neg hc5, show m0 s (p + 2) + 1 = m0 s p + k by omega]; rfl)
                refine tr_pre (E' := (7, none, vint .i64 (((memR s p first).2.1 : Nat) : Int)) :: [(6, none, .ref 0 []), (7, none, vint .i64 (((p + 3) : Nat) : Int)), (8, none, vbool true)]) (H' := [.box (.p ((eA eB 1 37) ((memR s p first).1)))]) (fun A_ W_ hS => sl_set_imp (d := vint .i64 (((p + 3) : Nat) : Int)) 7 (vint .i64 (((memR s p first).2.1 : Nat) : Int)) (by kernel_rfl) ?_ hS) ?_
                · refine imp_eq (congrArg (fun x => D.p (eI x)) (a₁ := (((p + 3) : Nat) : Int)) (a₂ := (((memR s p first).2.1 : Nat) : Int)) ?_)
                  first | (rw [memR, if_pos hc1]; done) | (rw [memR, if_pos hc1]; rfl) | (rw [memR, if_neg hc1, if_pos hc2]; done) | (rw [memR, if_neg hc1, if_pos hc2]; rfl) | (rw [memR, if_neg hc1, if_neg hc2, if_pos hc3]; done) | (rw [memR, if_neg hc1, if_neg hc2, if_pos hc3]; rfl) | (rw [memR, if_neg hc1, if_neg hc2, if_neg hc3, if_pos hc4]; done) | (rw [memR, if_neg hc1, if_neg hc2, if_neg hc3, if_pos hc4]; rfl) | (rw [memR, if_neg hc1, if_neg hc2, if_neg hc3, if_neg hc4, if_pos hc5]; done) | (rw [memR, if_neg hc1, if_neg hc2, if_neg hc3, if_neg hc4, if_pos hc5]; rfl) | (rw [memR, if_neg hc1, if_neg hc2, if_neg hc3, if_neg hc4, if_neg hc5, show m0 s (p + 2) + 1 = m0 s p + k by omega]; done) | (rw [memR, if_neg hc1, if_neg hc2, if_neg hc3, if_neg hc4, if_neg hc5, show m0 s (p + 2) + 1 = m0 s p + k by omega]; rfl)
                refine tr_pre (E' := [(6, none, .ref 0 []), (7, none, vint .i64 (((memR s p first).2.1 : Nat) : Int)), (8, none, vbool true)]) (H' := [.box (.p ((eA eB 1 37) ((memR s p first).1)))]) (fun A_ W_ hS => sl_proj (ts := [6, 7, 8]) (by kernel_rfl) hS) ?_
                refine tr_pre (E' := (8, none, vbool ((memR s p first).2.2)) :: [(6, none, .ref 0 []), (7, none, vint .i64 (((memR s p first).2.1 : Nat) : Int)), (8, none, vbool true)]) (H' := [.box (.p ((eA eB 1 37) ((memR s p first).1)))]) (fun A_ W_ hS => sl_set_imp (d := vbool true) 8 (vbool ((memR s p first).2.2)) (by kernel_rfl) ?_ hS) ?_
                · refine imp_eq (congrArg (fun x => D.p (eB x)) (a₁ := true) (a₂ := ((memR s p first).2.2)) ?_)
                  first | (rw [memR, if_pos hc1]; done) | (rw [memR, if_pos hc1]; rfl) | (rw [memR, if_neg hc1, if_pos hc2]; done) | (rw [memR, if_neg hc1, if_pos hc2]; rfl) | (rw [memR, if_neg hc1, if_neg hc2, if_pos hc3]; done) | (rw [memR, if_neg hc1, if_neg hc2, if_pos hc3]; rfl) | (rw [memR, if_neg hc1, if_neg hc2, if_neg hc3, if_pos hc4]; done) | (rw [memR, if_neg hc1, if_neg hc2, if_neg hc3, if_pos hc4]; rfl) | (rw [memR, if_neg hc1, if_neg hc2, if_neg hc3, if_neg hc4, if_pos hc5]; done) | (rw [memR, if_neg hc1, if_neg hc2, if_neg hc3, if_neg hc4, if_pos hc5]; rfl) | (rw [memR, if_neg hc1, if_neg hc2, if_neg hc3, if_neg hc4, if_neg hc5, show m0 s (p + 2) + 1 = m0 s p + k by omega]; done) | (rw [memR, if_neg hc1, if_neg hc2, if_neg hc3, if_neg hc4, if_neg hc5, show m0 s (p + 2) + 1 = m0 s p + k by omega]; rfl)
                refine tr_pre (E' := [(6, none, .ref 0 []), (7, none, vint .i64 (((memR s p first).2.1 : Nat) : Int)), (8, none, vbool ((memR s p first).2.2))]) (H' := [.box (.p ((eA eB 1 37) ((memR s p first).1)))]) (fun A_ W_ hS => sl_proj (ts := [6, 7, 8]) (by kernel_rfl) hS) ?_
                exact tr_return' (vc := []) (ds := [.p ((eA eB 1 37) ((memR s p first).1)), vint .i64 (((memR s p first).2.1 : Nat) : Int), vbool ((memR s p first).2.2)]) (by kernel_rfl) trivial (by kernel_rfl) (fun _ _ h => h)
def orN (o m : Nat → Bool) (k : Nat) : Nat → Bool := fun i => if i < k then o i || m i else o i
theorem orN_0 (o m : Nat → Bool) : orN o m 0 = o := by funext i; simp [orN]
theorem orN_s (o m : Nat → Bool) (k : Nat) : upd (orN o m k) k (orN o m k k || m k) = orN o m (k + 1) := by
  funext i
  unfold upd orN
  by_cases h : i = k
  · subst h
    rw [if_pos rfl, if_neg (Nat.lt_irrefl _), if_pos (Nat.lt_succ_self _)]
  · rw [if_neg h]
    by_cases h1 : i < k
    · rw [if_pos h1, if_pos (by omega)]
    · rw [if_neg h1, if_neg (by omega)]
def memF (s : List UInt8) (f p : Nat) : (Nat → Bool) × Nat × Bool := memR s p (((p : Nat) : Int) == ((f : Nat) : Int))
def setL : Nat → List UInt8 → Nat → Nat → (Nat → Bool) → (Nat → Bool) × Nat × Bool
  | 0, _, _, p, o => (o, p, false)
  | n + 1, s, f, p, o => if ((p : Nat) : Int) < ((s.length : Nat) : Int) ∧ ((s.getD p 0).toNat : Int) ≠ 93 then
      (if (memF s f p).2.2 = false then (o, p, false) else setL n s f (memF s f p).2.1 (orN o (memF s f p).1 37))
    else (o, p + 1, decide (((p : Nat) : Int) < ((s.length : Nat) : Int)) && decide (((f : Nat) : Int) < ((p : Nat) : Int)))
def setR (s : List UInt8) (p : Nat) : (Nat → Bool) × Nat × Bool :=
  if ((s.getD p 0).toNat : Int) ≠ 91 then (if m0 s p < 0 then (noSet, p, false) else (memS s p, p + 1, true)) else setL (s.length + 1) s (p + 1) (p + 1) noSet
theorem memR_le {s : List UInt8} {p : Nat} {first : Bool} (h : p < s.length) (hr : (memR s p first).2.2 = true) : p < (memR s p first).2.1 ∧ (memR s p first).2.1 ≤ s.length := by
  unfold memR at hr ⊢
  split
  · rename_i h1; rw [if_pos h1] at hr; cases hr
  · rename_i h1
    rw [if_neg h1] at hr
    split
    · exact ⟨by simp, by simp only; omega⟩
    · rename_i h2
      rw [if_neg h2] at hr
      split
      · exact ⟨by simp, by simp only; omega⟩
      · rename_i h3
        rw [if_neg h3] at hr
        split
        · rename_i h4; rw [if_pos h4] at hr; cases hr
        · rename_i h4
          rw [if_neg h4] at hr
          split
          · rename_i h5; rw [if_pos h5] at hr; cases hr
          · exact ⟨by simp only; omega, by simp only; omega⟩
section
variable {n f p : Nat} {s : List UInt8} {o : Nat → Bool}
theorem setL_1 (hn : 0 < n) (h : ((p : Nat) : Int) < ((s.length : Nat) : Int) ∧ ((s.getD p 0).toNat : Int) ≠ 93) (h1 : (memF s f p).2.2 = false) : setL n s f p o = (o, p, false) := by
  obtain ⟨n, rfl⟩ : ∃ j, n = j + 1 := ⟨n - 1, by omega⟩
  rw [setL, if_pos h, if_pos h1]
theorem setL_2 (hn : 0 < n) (h : ((p : Nat) : Int) < ((s.length : Nat) : Int) ∧ ((s.getD p 0).toNat : Int) ≠ 93) (h1 : ¬ (memF s f p).2.2 = false) : setL n s f p o = setL (n - 1) s f (memF s f p).2.1 (orN o (memF s f p).1 37) := by
  obtain ⟨n, rfl⟩ : ∃ j, n = j + 1 := ⟨n - 1, by omega⟩
  rw [setL, if_pos h, if_neg h1]; rfl
theorem setL_3 (hn : 0 < n) (h : ¬ (((p : Nat) : Int) < ((s.length : Nat) : Int) ∧ ((s.getD p 0).toNat : Int) ≠ 93)) : setL n s f p o = (o, p + 1, decide (((p : Nat) : Int) < ((s.length : Nat) : Int)) && decide (((f : Nat) : Int) < ((p : Nat) : Int))) := by
  obtain ⟨n, rfl⟩ : ∃ j, n = j + 1 := ⟨n - 1, by omega⟩
  rw [setL, if_neg h]
end
theorem refSet_ok (s : List UInt8) (p : Nat) (hb0 : s.length < 4611686018427387904) (hp : p < s.length) : Pure Try.prog 46 [.s s, .v (.int .i64 ((p : Nat) : Int))] (.tup [.p ((eA eB 1 37) ((setR s p).1)), vint .i64 (((setR s p).2.1 : Nat) : Int), vbool ((setR s p).2.2)]) := by
  have b0 := (s.getD p 0).toNat_lt
  have q0 := sym_le ((s.getD p 0).toNat : Int)
  have q1 := sym_ge ((s.getD p 0).toNat : Int)
  have e0 : m0 s p = sym ((s.getD p 0).toNat : Int) := rfl
  refine pure_of (fn := Try.f46) Try.func46 rfl rfl fun F_ W0_ => ?_
  refine tr_seq ?_
  refine tr_r (vc := []) (E' := [(0, none, vstr s), (1, none, vint .i64 ((p : Nat) : Int)), (4, none, .ref 0 [])]) (H' := [.box (.p ((eA eB 1 37) (fun _ => false)))]) [] [] [0, 1, 4] (by kernel_rfl) ?_ ?_
  · exact trivial
  refine tr_then (tr_seq ?_)
  refine tr_r (vc := []) (E' := [(0, none, vstr s), (1, none, vint .i64 ((p : Nat) : Int)), (4, none, .ref 0 []), (7, none, .ref 1 [])]) (H' := [.box (.p ((eA eB 1 37) (fun _ => false))), .box (.p ((eA eB 1 37) (fun _ => false)))]) [] [] [0, 1, 4, 7] (by kernel_rfl) ?_ ?_
  · exact trivial
  refine tr_then (tr_seq ?_)
  refine tr_seq ?_
  refine tr_r (vc := [(0 : Int) ≤ ((p : Nat) : Int), ((p : Nat) : Int) < (s.length : Int)]) (E' := [(0, none, vstr s), (1, none, vint .i64 ((p : Nat) : Int)), (4, none, .ref 0 []), (7, none, .ref 1 []), (17, none, vbool (((s.getD p 0).toNat : Int) != 91))]) (H' := [.box (.p ((eA eB 1 37) (fun _ => false))), .box (.p ((eA eB 1 37) (fun _ => false)))]) [] [] [0, 1, 4, 7, 17] (by kernel_rfl) ?_ ?_
  · refine al ?_ (al ?_ (trivial))
    · omega
    · omega
  refine tr_then ?_
  refine tr_condP (((s.getD p 0).toNat : Int) != 91) (((s.getD p 0).toNat : Int) ≠ 91) (by simp) (by kernel_rfl) (fun hc1 => ?_) (fun hc1 => ?_)
  · skip
    refine tr_seq ?_
    refine tr_r (vc := [(0 : Int) ≤ ((p : Nat) : Int), ((p : Nat) : Int) < (s.length : Int), Pure Try.prog 43 [.v (.int .u8 ((s.getD p 0).toNat : Int))] (vint .i64 (sym ((s.getD p 0).toNat : Int))), (sym ((s.getD p 0).toNat : Int)) = (m0 s p)]) (E' := [(1, none, vint .i64 ((p : Nat) : Int)), (4, none, .ref 0 []), (7, none, .ref 1 []), (8, none, vint .i64 (m0 s p))]) (H' := [.box (.p ((eA eB 1 37) (fun _ => false))), .box (.p ((eA eB 1 37) (fun _ => false)))]) [(4, vint .i64 (m0 s p))] [(3, vint .i64 (sym ((s.getD p 0).toNat : Int)))] [1, 4, 7, 8] (by kernel_rfl) ?_ ?_
    · refine al ?_ (al ?_ (al ?_ (al ?_ (trivial))))
      · omega
      · omega
      · first | exact refSymbolB_ok _ | exact refSymbol_ok _ (by omega) (by omega)
      · omega
    refine tr_then (tr_seq ?_)
    refine tr_seq ?_
    refine tr_r (vc := []) (E' := [(1, none, vint .i64 ((p : Nat) : Int)), (4, none, .ref 0 []), (7, none, .ref 1 []), (8, none, vint .i64 (m0 s p)), (23, none, vbool (decide ((m0 s p) < 0)))]) (H' := [.box (.p ((eA eB 1 37) (fun _ => false))), .box (.p ((eA eB 1 37) (fun _ => false)))]) [] [] [1, 4, 7, 8, 23] (by kernel_rfl) ?_ ?_
    · exact trivial
    refine tr_then ?_
    refine tr_condP (decide ((m0 s p) < 0)) ((m0 s p) < 0) (by simp) (by kernel_rfl) (fun hc2 => ?_) (fun hc2 => ?_)
    · skip
      refine tr_seq ?_
      refine tr_r (vc := []) (E' := [(4, none, .ref 0 []), (5, none, vint .i64 ((p : Nat) : Int)), (6, none, vbool false)]) (H' := [.box (.p ((eA eB 1 37) (fun _ => false))), .box (.p ((eA eB 1 37) (fun _ => false)))]) [] [] [4, 5, 6] (by kernel_rfl) ?_ ?_
      · exact trivial
      refine tr_then ?_
      refine tr_pre (E' := [(4, none, .ref 0 []), (5, none, vint .i64 ((p : Nat) : Int)), (6, none, vbool false)]) (H' := [.box (.p ((eA eB 1 37) (fun _ => false)))]) (fun A_ W_ hS => sl_weak (vc := []) [0] [4, 5, 6] (by kernel_rfl) trivial hS) ?_
      refine tr_pre (E' := [(4, none, .ref 0 []), (5, none, vint .i64 ((p : Nat) : Int)), (6, none, vbool false)]) (H' := [.box (.p ((eA eB 1 37) ((setR s p).1)))]) (fun A_ W_ hS => sl_obj_imp (d := .p ((eA eB 1 37) (fun _ => false))) 0 (.p ((eA eB 1 37) ((setR s p).1))) (by kernel_rfl) ?_ hS) ?_
      · refine impC_eq (congrArg (fun x => D.p ((eA eB 1 37) x)) (a₁ := (fun _ => false)) (a₂ := ((setR s p).1)) ?_)
        first | (rw [setR, if_pos hc1, if_pos hc2]; done) | (rw [setR, if_pos hc1, if_pos hc2]; rfl) | (rw [setR, if_pos hc1, if_neg hc2]; done) | (rw [setR, if_pos hc1, if_neg hc2]; rfl) | (rw [setR, if_neg hc1, ← hi0_0, setL_1 (by omega) hc3 hc4]; done) | (rw [setR, if_neg hc1, ← hi0_0, setL_3 (by omega) hc3]; done)
      refine tr_pre (E' := (5, none, vint .i64 (((setR s p).2.1 : Nat) : Int)) :: [(4, none, .ref 0 []), (5, none, vint .i64 ((p : Nat) : Int)), (6, none, vbool false)]) (H' := [.box (.p ((eA eB 1 37) ((setR s p).1)))]) (fun A_ W_ hS => sl_set_imp (d := vint .i64 ((p : Nat) : Int)) 5 (vint .i64 (((setR s p).2.1 : Nat) : Int)) (by kernel_rfl) ?_ hS) ?_
      · refine imp_eq (congrArg (fun x => D.p (eI x)) (a₁ := ((p : Nat) : Int)) (a₂ := (((setR s p).2.1 : Nat) : Int)) ?_)
        first | (rw [setR, if_pos hc1, if_pos hc2]; done) | (rw [setR, if_pos hc1, if_pos hc2]; rfl) | (rw [setR, if_pos hc1, if_neg hc2]; done) | (rw [setR, if_pos hc1, if_neg hc2]; rfl) | (rw [setR, if_neg hc1, ← hi0_0, setL_1 (by omega) hc3 hc4]; done) | (rw [setR, if_neg hc1, ← hi0_0, setL_3 (by omega) hc3]; done)
      refine tr_pre (E' := [(4, none, .ref 0 []), (5, none, vint .i64 (((setR s p).2.1 : Nat) : Int)), (6, none, vbool false)]) (H' := [.box (.p ((eA eB 1 37) ((setR s p).1)))]) (fun A_ W_ hS => sl_proj (ts := [4, 5, 6]) (by kernel_rfl) hS) ?_
      refine tr_pre (E' := (6, none, vbool ((setR s p).2.2)) :: [(4, none, .ref 0 []), (5, none, vint .i64 (((setR s p).2.1 : Nat) : Int)), (6, none, vbool false)]) (H' := [.box (.p ((eA eB 1 37) ((setR s p).1)))]) (fun A_ W_ hS => sl_set_imp (d := vbool false) 6 (vbool ((setR s p).2.2)) (by kernel_rfl) ?_ hS) ?_
      · refine imp_eq (congrArg (fun x => D.p (eB x)) (a₁ := false) (a₂ := ((setR s p).2.2)) ?_)
        first | (rw [setR, if_pos hc1, if_pos hc2]; done) | (rw [setR, if_pos hc1, if_pos hc2]; rfl) | (rw [setR, if_pos hc1, if_neg hc2]; done) | (rw [setR, if_pos hc1, if_neg hc2]; rfl) | (rw [setR, if_neg hc1, ← hi0_0, setL_1 (by omega) hc3 hc4]; done) | (rw [setR, if_neg hc1, ← hi0_0, setL_3 (by omega) hc3]; done)
      refine tr_pre (E' := [(4, none, .ref 0 []), (5, none, vint .i64 (((setR s p).2.1 : Nat) : Int)), (6, none, vbool ((setR s p).2.2))]) (H' := [.box (.p ((eA eB 1 37) ((setR s p).1)))]) (fun A_ W_ hS => sl_proj (ts := [4, 5, 6]) (by kernel_rfl) hS) ?_
      exact tr_return' (vc := []) (ds := [.p ((eA eB 1 37) ((setR s p).1)), vint .i64 (((setR s p).2.1 : Nat) : Int), vbool ((setR s p).2.2)]) (by kernel_rfl) trivial (by kernel_rfl) (fun _ _ h => h)
    · skip
      refine tr_skip ?_
      refine tr_then (tr_seq ?_)
      refine tr_r (vc := [(0 : Int) ≤ (m0 s p), (m0 s p) < (37 : Int), (m0 s p).toNat < 37]) (E' := [(1, none, vint .i64 ((p : Nat) : Int)), (4, none, .ref 0 []), (7, none, .ref 1 [])]) (H' := [.box (.p ((eA eB 1 37) (fun _ => false))), .box (.p (.vec 1 37 (upd (fun i => eB ((fun _ => false) i)) ((m0 s p).toNat) (.v (.bool true)))))]) [] [] [1, 4, 7] (by kernel_rfl) ?_ ?_
      · refine al ?_ (al ?_ (al ?_ (trivial)))
        · omega
        · omega
        · omega
      refine nm_pre (E' := [(1, none, vint .i64 ((p : Nat) : Int)), (4, none, .ref 0 []), (7, none, .ref 1 [])]) (H' := [.box (.p ((eA eB 1 37) (fun _ => false))), .box (.p ((eA eB 1 37) (upd (fun _ => false) ((m0 s p).toNat) true)))]) (fun A_ W_ hS => sl_obj (o := .box (.p (.vec 1 37 (upd (fun i => eB ((fun _ => false) i)) ((m0 s p).toNat) (.v (.bool true)))))) 1 (.box (.p ((eA eB 1 37) (upd (fun _ => false) ((m0 s p).toNat) true)))) (by kernel_rfl) (by exact congrArg (fun y => O.box (D.p y)) (vec_upd (e := eB) (f := (fun _ => false)) (k := ((m0 s p).toNat)) (x := true))) hS) ?_
      refine tr_then (tr_seq ?_)
      refine tr_r (vc := [(IntKind.wrap .i64 (((p : Nat) : Int) + 1)) = (((p + 1) : Nat) : Int)]) (E' := [(4, none, .ref 0 []), (5, none, vint .i64 (((p + 1) : Nat) : Int)), (6, none, vbool true)]) (H' := [.box (.p ((eA eB 1 37) (upd (fun _ => false) ((m0 s p).toNat) true))), .box (.p ((eA eB 1 37) (upd (fun _ => false) ((m0 s p).toNat) true)))]) [(2, vint .i64 (((p + 1) : Nat) : Int))] [] [4, 5, 6] (by kernel_rfl) ?_ ?_
      · refine al ?_ (trivial)
        · exact wr64 (by omega) (by omega) (by omega)
      refine tr_then ?_
      refine tr_pre (E' := [(4, none, .ref 0 []), (5, none, vint .i64 (((p + 1) : Nat) : Int)), (6, none, vbool true)]) (H' := [.box (.p ((eA eB 1 37) (upd (fun _ => false) ((m0 s p).toNat) true)))]) (fun A_ W_ hS => sl_weak (vc := []) [0] [4, 5, 6] (by kernel_rfl) trivial hS) ?_
      refine tr_pre (E' := [(4, none, .ref 0 []), (5, none, vint .i64 (((p + 1) : Nat) : Int)), (6, none, vbool true)]) (H' := [.box (.p ((eA eB 1 37) ((setR s p).1)))]) (fun A_ W_ hS => sl_obj_imp (d := .p ((eA eB 1 37) (upd (fun _ => false) ((m0 s p).toNat) true))) 0 (.p ((eA eB 1 37) ((setR s p).1))) (by kernel_rfl) ?_ hS) ?_
      · refine impC_eq (congrArg (fun x => D.p ((eA eB 1 37) x)) (a₁ := (upd (fun _ => false) ((m0 s p).toNat) true)) (a₂ := ((setR s p).1)) ?_)
        first | (rw [setR, if_pos hc1, if_pos hc2]; done) | (rw [setR, if_pos hc1, if_pos hc2]; rfl) | (rw [setR, if_pos hc1, if_neg hc2]; done) | (rw [setR, if_pos hc1, if_neg hc2]; rfl) | (rw [setR, if_neg hc1, ← hi0_0, setL_1 (by omega) hc3 hc4]; done) | (rw [setR, if_neg hc1, ← hi0_0, setL_3 (by omega) hc3]; done)
      refine tr_pre (E' := (5, none, vint .i64 (((setR s p).2.1 : Nat) : Int)) :: [(4, none, .ref 0 []), (5, none, vint .i64 (((p + 1) : Nat) : Int)), (6, none, vbool true)]) (H' := [.box (.p ((eA eB 1 37) ((setR s p).1)))]) (fun A_ W_ hS => sl_set_imp (d := vint .i64 (((p + 1) : Nat) : Int)) 5 (vint .i64 (((setR s p).2.1 : Nat) : Int)) (by kernel_rfl) ?_ hS) ?_
      · refine imp_eq (congrArg (fun x => D.p (eI x)) (a₁ := (((p + 1) : Nat) : Int)) (a₂ := (((setR s p).2.1 : Nat) : Int)) ?_)
        first | (rw [setR, if_pos hc1, if_pos hc2]; done) | (rw [setR, if_pos hc1, if_pos hc2]; rfl) | (rw [setR, if_pos hc1, if_neg hc2]; done) | (rw [setR, if_pos hc1, if_neg hc2]; rfl) | (rw [setR, if_neg hc1, ← hi0_0, setL_1 (by omega) hc3 hc4]; done) | (rw [setR, if_neg hc1, ← hi0_0, setL_3 (by omega) hc3]; done)
      refine tr_pre (E' := [(4, none, .ref 0 []), (5, none, vint .i64 (((setR s p).2.1 : Nat) : Int)), (6, none, vbool true)]) (H' := [.box (.p ((eA eB 1 37) ((setR s p).1)))]) (fun A_ W_ hS => sl_proj (ts := [4, 5, 6]) (by kernel_rfl) hS) ?_
      refine tr_pre (E' := (6, none, vbool ((setR s p).2.2)) :: [(4, none, .ref 0 []), (5, none, vint .i64 (((setR s p).2.1 : Nat) : Int)), (6, none, vbool true)]) (H' := [.box (.p ((eA eB 1 37) ((setR s p).1)))]) (fun A_ W_ hS => sl_set_imp (d := vbool true) 6 (vbool ((setR s p).2.2)) (by kernel_rfl) ?_ hS) ?_
      · refine imp_eq (congrArg (fun x => D.p (eB x)) (a₁ := true) (a₂ := ((setR s p).2.2)) ?_)
        first | (rw [setR, if_pos hc1, if_pos hc2]; done) | (rw [setR, if_pos hc1, if_pos hc2]; rfl) | (rw [setR, if_pos hc1, if_neg hc2]; done) | (rw [setR, if_pos hc1, if_neg hc2]; rfl) | (rw [setR, if_neg hc1, ← hi0_0, setL_1 (by omega) hc3 hc4]; done) | (rw [setR, if_neg hc1, ← hi0_0, setL_3 (by omega) hc3]; done)
      refine tr_pre (E' := [(4, none, .ref 0 []), (5, none, vint .i64 (((setR s p).2.1 : Nat) : Int)), (6, none, vbool ((setR s p).2.2))]) (H' := [.box (.p ((eA eB 1 37) ((setR s p).1)))]) (fun A_ W_ hS => sl_proj (ts := [4, 5, 6]) (by kernel_rfl) hS) ?_
      exact tr_return' (vc := []) (ds := [.p ((eA eB 1 37) ((setR s p).1)), vint .i64 (((setR s p).2.1 : Nat) : Int), vbool ((setR s p).2.2)]) (by kernel_rfl) trivial (by kernel_rfl) (fun _ _ h => h)
  · skip
    refine tr_skip ?_
    refine tr_then (tr_seq ?_)
    refine tr_r (vc := [(IntKind.wrap .i64 (((p : Nat) : Int) + 1)) = (((p + 1) : Nat) : Int)]) (E' := [(0, none, vstr s), (4, none, .ref 0 []), (7, none, .ref 1 []), (9, none, vint .i64 (((p + 1) : Nat) : Int))]) (H' := [.box (.p ((eA eB 1 37) (fun _ => false))), .box (.p ((eA eB 1 37) (fun _ => false)))]) [(1, vint .i64 (((p + 1) : Nat) : Int))] [] [0, 4, 7, 9] (by kernel_rfl) ?_ ?_
    · refine al ?_ (trivial)
      · exact wr64 (by omega) (by omega) (by omega)
    refine tr_then (tr_seq ?_)
    refine tr_r (vc := []) (E' := [(0, none, vstr s), (1, none, vint .i64 (((p + 1) : Nat) : Int)), (4, none, .ref 0 []), (7, none, .ref 1 []), (9, none, vint .i64 (((p + 1) : Nat) : Int))]) (H' := [.box (.p ((eA eB 1 37) (fun _ => false))), .box (.p ((eA eB 1 37) (fun _ => false)))]) [] [] [0, 1, 4, 7, 9] (by kernel_rfl) ?_ ?_
    · exact trivial
    refine tr_then (tr_seq ?_)
    refine tr_block ?_
    refine tr_loop (α := Nat × Nat × (Nat → Bool)) (fun z : Nat × Nat × (Nat → Bool) => (fun (n : Nat) (p1 : Nat) (o : Nat → Bool) => [(0, none, vstr s), (1, none, vint .i64 ((p1 : Nat) : Int)), (4, none, .ref 0 []), (7, none, .ref 1 []), (9, none, vint .i64 (((p + 1) : Nat) : Int))]) z.1 z.2.1 z.2.2) (fun z : Nat × Nat × (Nat → Bool) => (fun (n : Nat) (p1 : Nat) (o : Nat → Bool) => [.box (.p ((eA eB 1 37) (fun _ => false))), .box (.p ((eA eB 1 37) o))]) z.1 z.2.1 z.2.2) (fun z : Nat × Nat × (Nat → Bool) => (fun (n : Nat) (p1 : Nat) (o : Nat → Bool) => (setL n s (p + 1) p1 o = setL (s.length + 1) s (p + 1) (p + 1) noSet) ∧ (s.length < n + p1) ∧ (p1 ≤ s.length)) z.1 z.2.1 z.2.2) (fun z : Nat × Nat × (Nat → Bool) => (fun (n : Nat) (p1 : Nat) (o : Nat → Bool) => s.length - p1) z.1 z.2.1 z.2.2) ((s.length + 1), (p + 1), (fun _ => false)) ?_ ?_ ?_
    · show (setL (s.length + 1) s (p + 1) (p + 1) (fun _ => false) = setL (s.length + 1) s (p + 1) (p + 1) noSet) ∧ (s.length < (s.length + 1) + (p + 1)) ∧ ((p + 1) ≤ s.length)
      refine ⟨?_, ?_, ?_⟩
      · rfl
      · omega
      · omega
    · intro A_ W_ hS
      exact sl_weak (vc := []) [0, 1] [0, 1, 4, 7, 9] (by kernel_rfl) trivial hS
    · intro z hz
      obtain ⟨n, p1, o⟩ := z
      have hz : (setL n s (p + 1) p1 o = setL (s.length + 1) s (p + 1) (p + 1) noSet) ∧ (s.length < n + p1) ∧ (p1 ≤ s.length) := hz
      obtain ⟨hi0_0, hi0_1, hi0_2⟩ := hz
      have hml : p1 < s.length → (memF s (p + 1) p1).2.2 = true → p1 < (memF s (p + 1) p1).2.1 ∧ (memF s (p + 1) p1).2.1 ≤ s.length := fun h h1 => memR_le (s := s) (p := p1) h h1
      have hmf : (memF s (p + 1) p1) = memR s p1 (((p1 : Nat) : Int) == ((p + 1 : Nat) : Int)) := rfl
      refine tr_seq ?_
      refine tr_seq ?_
      refine tr_r (vc := [(decide (((p1 : Nat) : Int) < ((s.length : Nat) : Int))) = true → (decide (((p1 : Nat) : Int) < ((s.length : Nat) : Int))) = true, (decide (((p1 : Nat) : Int) < ((s.length : Nat) : Int))) = true → (decide (((p1 : Nat) : Int) < ((s.length : Nat) : Int))) = true, (decide (((p1 : Nat) : Int) < ((s.length : Nat) : Int))) = true → ((0 : Int) ≤ ((p1 : Nat) : Int)), (decide (((p1 : Nat) : Int) < ((s.length : Nat) : Int))) = true → (((p1 : Nat) : Int) < (s.length : Int)), (decide (((p1 : Nat) : Int) < ((s.length : Nat) : Int))) = true → (decide (((p1 : Nat) : Int) < ((s.length : Nat) : Int))) = true, (decide (((p1 : Nat) : Int) < ((s.length : Nat) : Int))) = true → (decide (((p1 : Nat) : Int) < ((s.length : Nat) : Int))) = true]) (E' := [(0, none, vstr s), (1, none, vint .i64 ((p1 : Nat) : Int)), (4, none, .ref 0 []), (7, none, .ref 1 []), (9, none, vint .i64 (((p + 1) : Nat) : Int)), (43, none, vbool ((decide (((p1 : Nat) : Int) < ((s.length : Nat) : Int))) && (((s.getD p1 0).toNat : Int) != 93)))]) (H' := [.box (.p ((eA eB 1 37) (fun _ => false))), .box (.p ((eA eB 1 37) o))]) [] [] [0, 1, 4, 7, 9, 43] (by kernel_rfl) ?_ ?_
      · refine al ?_ (al ?_ (al ?_ (al ?_ (al ?_ (al ?_ (trivial))))))
        · exact id
        · exact id
        · omega
        · (intro hg; simp at hg; omega)
        · exact id
        · exact id
      refine tr_then ?_
      refine tr_condP ((decide (((p1 : Nat) : Int) < ((s.length : Nat) : Int))) && (((s.getD p1 0).toNat : Int) != 93)) ((((p1 : Nat) : Int) < ((s.length : Nat) : Int)) ∧ (((s.getD p1 0).toNat : Int) ≠ 93)) (by simp) (by kernel_rfl) (fun hc3 => ?_) (fun hc3 => ?_)
      · skip
        refine tr_skip ?_
        refine tr_then ?_
        refine tr_block ?_
        refine tr_seq ?_
        refine tr_r (vc := [Pure Try.prog 54 [.s s, .v (.int .i64 ((p1 : Nat) : Int)), .v (.bool (((p1 : Nat) : Int) == (((p + 1) : Nat) : Int)))] (.tup [.p ((eA eB 1 37) ((memR s p1 (((p1 : Nat) : Int) == (((p + 1) : Nat) : Int))).1)), vint .i64 (((memR s p1 (((p1 : Nat) : Int) == (((p + 1) : Nat) : Int))).2.1 : Nat) : Int), vbool ((memR s p1 (((p1 : Nat) : Int) == (((p + 1) : Nat) : Int))).2.2)]), (.p ((eA eB 1 37) ((memR s p1 (((p1 : Nat) : Int) == (((p + 1) : Nat) : Int))).1)) : D) = .p ((eA eB 1 37) ((memF s (p + 1) p1).1)), (((memR s p1 (((p1 : Nat) : Int) == (((p + 1) : Nat) : Int))).2.1 : Nat) : Int) = (((memF s (p + 1) p1).2.1 : Nat) : Int), ((memR s p1 (((p1 : Nat) : Int) == (((p + 1) : Nat) : Int))).2.2) = ((memF s (p + 1) p1).2.2)]) (E' := [(0, none, vstr s), (1, none, vint .i64 ((p1 : Nat) : Int)), (4, none, .ref 0 []), (7, none, .ref 1 []), (9, none, vint .i64 (((p + 1) : Nat) : Int)), (10, none, .ref 2 []), (11, none, vint .i64 (((memF s (p + 1) p1).2.1 : Nat) : Int)), (12, none, vbool ((memF s (p + 1) p1).2.2))]) (H' := [.box (.p ((eA eB 1 37) (fun _ => false))), .box (.p ((eA eB 1 37) o)), .box (.p ((eA eB 1 37) ((memF s (p + 1) p1).1)))]) [(7, .p ((eA eB 1 37) ((memF s (p + 1) p1).1))), (8, vint .i64 (((memF s (p + 1) p1).2.1 : Nat) : Int)), (9, vbool ((memF s (p + 1) p1).2.2))] [(5, .tup [.p ((eA eB 1 37) ((memR s p1 (((p1 : Nat) : Int) == (((p + 1) : Nat) : Int))).1)), vint .i64 (((memR s p1 (((p1 : Nat) : Int) == (((p + 1) : Nat) : Int))).2.1 : Nat) : Int), vbool ((memR s p1 (((p1 : Nat) : Int) == (((p + 1) : Nat) : Int))).2.2)])] [0, 1, 4, 7, 9, 10, 11, 12] (by kernel_rfl) ?_ ?_
        · refine al ?_ (al ?_ (al ?_ (al ?_ (trivial))))
          · exact member_ok _ _ _ (by omega) (by omega)
          · (simp_all; done)
          · (simp_all; done)
          · (simp_all; done)
        refine tr_then (tr_seq ?_)
        refine tr_seq ?_
        refine tr_r (vc := []) (E' := [(0, none, vstr s), (1, none, vint .i64 ((p1 : Nat) : Int)), (4, none, .ref 0 []), (7, none, .ref 1 []), (9, none, vint .i64 (((p + 1) : Nat) : Int)), (10, none, .ref 2 []), (11, none, vint .i64 (((memF s (p + 1) p1).2.1 : Nat) : Int)), (55, none, vbool (!((memF s (p + 1) p1).2.2)))]) (H' := [.box (.p ((eA eB 1 37) (fun _ => false))), .box (.p ((eA eB 1 37) o)), .box (.p ((eA eB 1 37) ((memF s (p + 1) p1).1)))]) [] [] [0, 1, 4, 7, 9, 10, 11, 55] (by kernel_rfl) ?_ ?_
        · exact trivial
        refine tr_then ?_
        refine tr_condP (!((memF s (p + 1) p1).2.2)) (((memF s (p + 1) p1).2.2) = false) (by simp) (by kernel_rfl) (fun hc4 => ?_) (fun hc4 => ?_)
        · skip
          refine tr_seq ?_
          refine tr_r (vc := []) (E' := [(4, none, .ref 0 []), (5, none, vint .i64 ((p1 : Nat) : Int)), (6, none, vbool false)]) (H' := [.box (.p ((eA eB 1 37) o)), .box (.p ((eA eB 1 37) o)), .box (.p ((eA eB 1 37) ((memF s (p + 1) p1).1)))]) [] [] [4, 5, 6] (by kernel_rfl) ?_ ?_
          · exact trivial
          refine tr_then ?_
          refine tr_pre (E' := [(4, none, .ref 0 []), (5, none, vint .i64 ((p1 : Nat) : Int)), (6, none, vbool false)]) (H' := [.box (.p ((eA eB 1 37) o))]) (fun A_ W_ hS => sl_weak (vc := []) [0] [4, 5, 6] (by kernel_rfl) trivial hS) ?_
          refine tr_pre (E' := [(4, none, .ref 0 []), (5, none, vint .i64 ((p1 : Nat) : Int)), (6, none, vbool false)]) (H' := [.box (.p ((eA eB 1 37) ((setR s p).1)))]) (fun A_ W_ hS => sl_obj_imp (d := .p ((eA eB 1 37) o)) 0 (.p ((eA eB 1 37) ((setR s p).1))) (by kernel_rfl) ?_ hS) ?_
          · refine impC_eq (congrArg (fun x => D.p ((eA eB 1 37) x)) (a₁ := o) (a₂ := ((setR s p).1)) ?_)
            first | (rw [setR, if_pos hc1, if_pos hc2]; done) | (rw [setR, if_pos hc1, if_pos hc2]; rfl) | (rw [setR, if_pos hc1, if_neg hc2]; done) | (rw [setR, if_pos hc1, if_neg hc2]; rfl) | (rw [setR, if_neg hc1, ← hi0_0, setL_1 (by omega) hc3 hc4]; done) | (rw [setR, if_neg hc1, ← hi0_0, setL_3 (by omega) hc3]; done)
          refine tr_pre (E' := (5, none, vint .i64 (((setR s p).2.1 : Nat) : Int)) :: [(4, none, .ref 0 []), (5, none, vint .i64 ((p1 : Nat) : Int)), (6, none, vbool false)]) (H' := [.box (.p ((eA eB 1 37) ((setR s p).1)))]) (fun A_ W_ hS => sl_set_imp (d := vint .i64 ((p1 : Nat) : Int)) 5 (vint .i64 (((setR s p).2.1 : Nat) : Int)) (by kernel_rfl) ?_ hS) ?_
          · refine imp_eq (congrArg (fun x => D.p (eI x)) (a₁ := ((p1 : Nat) : Int)) (a₂ := (((setR s p).2.1 : Nat) : Int)) ?_)
            first | (rw [setR, if_pos hc1, if_pos hc2]; done) | (rw [setR, if_pos hc1, if_pos hc2]; rfl) | (rw [setR, if_pos hc1, if_neg hc2]; done) | (rw [setR, if_pos hc1, if_neg hc2]; rfl) | (rw [setR, if_neg hc1, ← hi0_0, setL_1 (by omega) hc3 hc4]; done) | (rw [setR, if_neg hc1, ← hi0_0, setL_3 (by omega) hc3]; done)
          refine tr_pre (E' := [(4, none, .ref 0 []), (5, none, vint .i64 (((setR s p).2.1 : Nat) : Int)), (6, none, vbool false)]) (H' := [.box (.p ((eA eB 1 37) ((setR s p).1)))]) (fun A_ W_ hS => sl_proj (ts := [4, 5, 6]) (by kernel_rfl) hS) ?_
          refine tr_pre (E' := (6, none, vbool ((setR s p).2.2)) :: [(4, none, .ref 0 []), (5, none, vint .i64 (((setR s p).2.1 : Nat) : Int)), (6, none, vbool false)]) (H' := [.box (.p ((eA eB 1 37) ((setR s p).1)))]) (fun A_ W_ hS => sl_set_imp (d := vbool false) 6 (vbool ((setR s p).2.2)) (by kernel_rfl) ?_ hS) ?_
          · refine imp_eq (congrArg (fun x => D.p (eB x)) (a₁ := false) (a₂ := ((setR s p).2.2)) ?_)
            first | (rw [setR, if_pos hc1, if_pos hc2]; done) | (rw [setR, if_pos hc1, if_pos hc2]; rfl) | (rw [setR, if_pos hc1, if_neg hc2]; done) | (rw [setR, if_pos hc1, if_neg hc2]; rfl) | (rw [setR, if_neg hc1, ← hi0_0, setL_1 (by omega) hc3 hc4]; done) | (rw [setR, if_neg hc1, ← hi0_0, setL_3 (by omega) hc3]; done)
          refine tr_pre (E' := [(4, none, .ref 0 []), (5, none, vint .i64 (((setR s p).2.1 : Nat) : Int)), (6, none, vbool ((setR s p).2.2))]) (H' := [.box (.p ((eA eB 1 37) ((setR s p).1)))]) (fun A_ W_ hS => sl_proj (ts := [4, 5, 6]) (by kernel_rfl) hS) ?_
          exact tr_return' (vc := []) (ds := [.p ((eA eB 1 37) ((setR s p).1)), vint .i64 (((setR s p).2.1 : Nat) : Int), vbool ((setR s p).2.2)]) (by kernel_rfl) trivial (by kernel_rfl) (fun _ _ h => h)
        · skip
          refine tr_skip ?_
          refine tr_then (tr_seq ?_)
          refine tr_seq ?_
          refine tr_r (vc := []) (E' := [(0, none, vstr s), (4, none, .ref 0 []), (7, none, .ref 1 []), (9, none, vint .i64 (((p + 1) : Nat) : Int)), (10, none, .ref 2 []), (11, none, vint .i64 (((memF s (p + 1) p1).2.1 : Nat) : Int)), (13, none, vint .i64 0)]) (H' := [.box (.p ((eA eB 1 37) (fun _ => false))), .box (.p ((eA eB 1 37) o)), .box (.p ((eA eB 1 37) ((memF s (p + 1) p1).1)))]) [] [] [0, 4, 7, 9, 10, 11, 13] (by kernel_rfl) ?_ ?_
          · exact trivial
          refine tr_then ?_
          refine tr_block ?_
          refine tr_loop (α := Nat) (fun z : Nat => (fun (k : Nat) => [(0, none, vstr s), (4, none, .ref 0 []), (7, none, .ref 1 []), (9, none, vint .i64 (((p + 1) : Nat) : Int)), (10, none, .ref 2 []), (11, none, vint .i64 (((memF s (p + 1) p1).2.1 : Nat) : Int)), (13, none, vint .i64 ((k : Nat) : Int))]) z) (fun z : Nat => (fun (k : Nat) => [.box (.p ((eA eB 1 37) (fun _ => false))), .box (.p ((eA eB 1 37) (orN o (memF s (p + 1) p1).1 k))), .box (.p ((eA eB 1 37) ((memF s (p + 1) p1).1)))]) z) (fun z : Nat => (fun (k : Nat) => (k ≤ 37)) z) (fun z : Nat => (fun (k : Nat) => 37 - k) z) 0 ?_ ?_ ?_
          · show (0 ≤ 37)
            · omega
          · intro A_ W_ hS
            replace hS := sl_set (d := vint .i64 0) 13 (vint .i64 ((0 : Nat) : Int)) (by kernel_rfl) (eqD_int (by omega)) hS
            replace hS := sl_obj_imp (d := .p ((eA eB 1 37) o)) 1 (.p ((eA eB 1 37) (orN o (memF s (p + 1) p1).1 0))) (by kernel_rfl) (impC_eq (congrArg (fun x => D.p ((eA eB 1 37) x)) (a₁ := o) (a₂ := (orN o (memF s (p + 1) p1).1 0)) (by exact (orN_0 _ _).symm))) hS
            exact sl_weak (vc := []) [0, 1, 2] [0, 4, 7, 9, 10, 11, 13] (by kernel_rfl) trivial hS
          · intro z hz
            revert z; intro k hz
            have hz : (k ≤ 37) := hz
            have hi1_0 := hz
            refine tr_seq ?_
            refine tr_seq ?_
            refine tr_r (vc := []) (E' := [(0, none, vstr s), (4, none, .ref 0 []), (7, none, .ref 1 []), (9, none, vint .i64 (((p + 1) : Nat) : Int)), (10, none, .ref 2 []), (11, none, vint .i64 (((memF s (p + 1) p1).2.1 : Nat) : Int)), (13, none, vint .i64 ((k : Nat) : Int)), (59, none, vbool (decide (((k : Nat) : Int) < 37)))]) (H' := [.box (.p ((eA eB 1 37) (fun _ => false))), .box (.p ((eA eB 1 37) (orN o (memF s (p + 1) p1).1 k))), .box (.p ((eA eB 1 37) ((memF s (p + 1) p1).1)))]) [] [] [0, 4, 7, 9, 10, 11, 13, 59] (by kernel_rfl) ?_ ?_
            · exact trivial
            refine tr_then ?_
            refine tr_condP (decide (((k : Nat) : Int) < 37)) (((k : Nat) : Int) < 37) (by simp) (by kernel_rfl) (fun hc5 => ?_) (fun hc5 => ?_)
            · skip
              refine tr_skip ?_
              refine tr_then (tr_seq ?_)
              refine tr_block ?_
              refine tr_r (vc := [(0 : Int) ≤ ((k : Nat) : Int), ((k : Nat) : Int) < (37 : Int), k < 37, (!((orN o (memF s (p + 1) p1).1 k) k)) = true → (!((orN o (memF s (p + 1) p1).1 k) k)) = true, (!((orN o (memF s (p + 1) p1).1 k) k)) = true → ((0 : Int) ≤ ((k : Nat) : Int)), (!((orN o (memF s (p + 1) p1).1 k) k)) = true → (((k : Nat) : Int) < (37 : Int)), (!((orN o (memF s (p + 1) p1).1 k) k)) = true → (!((orN o (memF s (p + 1) p1).1 k) k)) = true, (!((orN o (memF s (p + 1) p1).1 k) k)) = true → (k < 37), (!((orN o (memF s (p + 1) p1).1 k) k)) = true → (!((orN o (memF s (p + 1) p1).1 k) k)) = true, (0 : Int) ≤ ((k : Nat) : Int), ((k : Nat) : Int) < (37 : Int), k < 37]) (E' := [(0, none, vstr s), (4, none, .ref 0 []), (7, none, .ref 1 []), (9, none, vint .i64 (((p + 1) : Nat) : Int)), (10, none, .ref 2 []), (11, none, vint .i64 (((memF s (p + 1) p1).2.1 : Nat) : Int)), (13, none, vint .i64 ((k : Nat) : Int))]) (H' := [.box (.p ((eA eB 1 37) (fun _ => false))), .box (.p (.vec 1 37 (upd (fun i => eB ((orN o (memF s (p + 1) p1).1 k) i)) k (.v (.bool (((orN o (memF s (p + 1) p1).1 k) k) || (((memF s (p + 1) p1).1) k))))))), .box (.p ((eA eB 1 37) ((memF s (p + 1) p1).1)))]) [] [] [0, 4, 7, 9, 10, 11, 13] (by kernel_rfl) ?_ ?_
              · refine al ?_ (al ?_ (al ?_ (al ?_ (al ?_ (al ?_ (al ?_ (al ?_ (al ?_ (al ?_ (al ?_ (al ?_ (trivial))))))))))))
                · omega
                · omega
                · omega
                · exact id
                · omega
                · omega
                · exact id
                · omega
                · exact id
                · omega
                · omega
                · omega
              refine nm_pre (E' := [(0, none, vstr s), (4, none, .ref 0 []), (7, none, .ref 1 []), (9, none, vint .i64 (((p + 1) : Nat) : Int)), (10, none, .ref 2 []), (11, none, vint .i64 (((memF s (p + 1) p1).2.1 : Nat) : Int)), (13, none, vint .i64 ((k : Nat) : Int))]) (H' := [.box (.p ((eA eB 1 37) (fun _ => false))), .box (.p ((eA eB 1 37) (upd (orN o (memF s (p + 1) p1).1 k) k (((orN o (memF s (p + 1) p1).1 k) k) || (((memF s (p + 1) p1).1) k))))), .box (.p ((eA eB 1 37) ((memF s (p + 1) p1).1)))]) (fun A_ W_ hS => sl_obj (o := .box (.p (.vec 1 37 (upd (fun i => eB ((orN o (memF s (p + 1) p1).1 k) i)) k (.v (.bool (((orN o (memF s (p + 1) p1).1 k) k) || (((memF s (p + 1) p1).1) k)))))))) 1 (.box (.p ((eA eB 1 37) (upd (orN o (memF s (p + 1) p1).1 k) k (((orN o (memF s (p + 1) p1).1 k) k) || (((memF s (p + 1) p1).1) k)))))) (by kernel_rfl) (by exact congrArg (fun y => O.box (D.p y)) (vec_upd (e := eB) (f := (orN o (memF s (p + 1) p1).1 k)) (k := k) (x := (((orN o (memF s (p + 1) p1).1 k) k) || (((memF s (p + 1) p1).1) k))))) hS) ?_
              refine in_n ?_
              refine tr_then ?_
              refine tr_r (vc := [(IntKind.wrap .i64 (((k : Nat) : Int) + 1)) = (((k + 1) : Nat) : Int)]) (E' := [(0, none, vstr s), (4, none, .ref 0 []), (7, none, .ref 1 []), (9, none, vint .i64 (((p + 1) : Nat) : Int)), (10, none, .ref 2 []), (11, none, vint .i64 (((memF s (p + 1) p1).2.1 : Nat) : Int)), (13, none, vint .i64 (((k + 1) : Nat) : Int))]) (H' := [.box (.p ((eA eB 1 37) (fun _ => false))), .box (.p ((eA eB 1 37) (upd (orN o (memF s (p + 1) p1).1 k) k (((orN o (memF s (p + 1) p1).1 k) k) || (((memF s (p + 1) p1).1) k))))), .box (.p ((eA eB 1 37) ((memF s (p + 1) p1).1)))]) [(1, vint .i64 (((k + 1) : Nat) : Int))] [] [0, 4, 7, 9, 10, 11, 13] (by kernel_rfl) ?_ ?_
              · refine al ?_ (trivial)
                · exact wr64 (by omega) (by omega) (by omega)
              refine lp_end (k + 1) ?_ ?_ ?_
              · show ((k + 1) ≤ 37)
                · omega
              · show 37 - (k + 1) < 37 - k
                omega
              · intro A_ W_ hS
                replace hS := sl_obj_imp (d := .p ((eA eB 1 37) (upd (orN o (memF s (p + 1) p1).1 k) k (((orN o (memF s (p + 1) p1).1 k) k) || (((memF s (p + 1) p1).1) k))))) 1 (.p ((eA eB 1 37) (orN o (memF s (p + 1) p1).1 (k + 1)))) (by kernel_rfl) (impC_eq (congrArg (fun x => D.p ((eA eB 1 37) x)) (a₁ := (upd (orN o (memF s (p + 1) p1).1 k) k (((orN o (memF s (p + 1) p1).1 k) k) || (((memF s (p + 1) p1).1) k)))) (a₂ := (orN o (memF s (p + 1) p1).1 (k + 1))) (by exact orN_s _ _ _))) hS
                exact sl_weak (vc := []) [0, 1, 2] [0, 4, 7, 9, 10, 11, 13] (by kernel_rfl) trivial hS
            · skip
              refine tr_exit ?_
              refine th_e ?_
              refine th_e ?_
              refine in_hit ?_
              refine tr_then ?_
              refine tr_r (vc := []) (E' := [(0, none, vstr s), (1, none, vint .i64 (((memF s (p + 1) p1).2.1 : Nat) : Int)), (4, none, .ref 0 []), (7, none, .ref 1 []), (9, none, vint .i64 (((p + 1) : Nat) : Int))]) (H' := [.box (.p ((eA eB 1 37) (fun _ => false))), .box (.p ((eA eB 1 37) (orN o (memF s (p + 1) p1).1 k))), .box (.p ((eA eB 1 37) ((memF s (p + 1) p1).1)))]) [] [] [0, 1, 4, 7, 9] (by kernel_rfl) ?_ ?_
              · exact trivial
              refine in_n ?_
              refine lp_end ((n - 1), (memF s (p + 1) p1).2.1, (orN o (memF s (p + 1) p1).1 k)) ?_ ?_ ?_
              · show (setL (n - 1) s (p + 1) ((memF s (p + 1) p1).2.1) (orN o (memF s (p + 1) p1).1 k) = setL (s.length + 1) s (p + 1) (p + 1) noSet) ∧ (s.length < (n - 1) + ((memF s (p + 1) p1).2.1)) ∧ (((memF s (p + 1) p1).2.1) ≤ s.length)
                refine ⟨?_, ?_, ?_⟩
                · obtain rfl : k = 37 := (by omega); rw [← hi0_0, setL_2 (n := n) (by omega) hc3 hc4]
                · grind
                · (simp_all; done)
              · show s.length - ((memF s (p + 1) p1).2.1) < s.length - p1
                have := hml (by omega) (eq_true_of_ne_false hc4); omega
              · intro A_ W_ hS
                replace hS := sl_set (d := vint .i64 (((memF s (p + 1) p1).2.1 : Nat) : Int)) 1 (vint .i64 ((((memF s (p + 1) p1).2.1) : Nat) : Int)) (by kernel_rfl) (eqD_int (by omega)) hS
                exact sl_weak (vc := []) [0, 1] [0, 1, 4, 7, 9] (by kernel_rfl) trivial hS
      · skip
        refine tr_exit ?_
        refine th_e ?_
        refine th_e ?_
        refine in_hit ?_
        refine tr_then (tr_seq ?_)
        refine tr_r (vc := [(IntKind.wrap .i64 (((p1 : Nat) : Int) + 1)) = (((p1 + 1) : Nat) : Int), (decide (((p1 : Nat) : Int) < ((s.length : Nat) : Int))) = true → (decide (((p1 : Nat) : Int) < ((s.length : Nat) : Int))) = true, (decide (((p1 : Nat) : Int) < ((s.length : Nat) : Int))) = true → (decide (((p1 : Nat) : Int) < ((s.length : Nat) : Int))) = true, (decide (((p1 : Nat) : Int) < ((s.length : Nat) : Int))) = true → (decide (((p1 : Nat) : Int) < ((s.length : Nat) : Int))) = true]) (E' := [(4, none, .ref 0 []), (5, none, vint .i64 (((p1 + 1) : Nat) : Int)), (6, none, vbool ((decide (((p1 : Nat) : Int) < ((s.length : Nat) : Int))) && (decide ((((p + 1) : Nat) : Int) < ((p1 : Nat) : Int)))))]) (H' := [.box (.p ((eA eB 1 37) o)), .box (.p ((eA eB 1 37) o))]) [(2, vint .i64 (((p1 + 1) : Nat) : Int))] [] [4, 5, 6] (by kernel_rfl) ?_ ?_
        · refine al ?_ (al ?_ (al ?_ (al ?_ (trivial))))
          · exact wr64 (by omega) (by omega) (by omega)
          · exact id
          · exact id
          · exact id
        refine tr_then ?_
        refine tr_pre (E' := [(4, none, .ref 0 []), (5, none, vint .i64 (((p1 + 1) : Nat) : Int)), (6, none, vbool ((decide (((p1 : Nat) : Int) < ((s.length : Nat) : Int))) && (decide ((((p + 1) : Nat) : Int) < ((p1 : Nat) : Int)))))]) (H' := [.box (.p ((eA eB 1 37) o))]) (fun A_ W_ hS => sl_weak (vc := []) [0] [4, 5, 6] (by kernel_rfl) trivial hS) ?_
        refine tr_pre (E' := [(4, none, .ref 0 []), (5, none, vint .i64 (((p1 + 1) : Nat) : Int)), (6, none, vbool ((decide (((p1 : Nat) : Int) < ((s.length : Nat) : Int))) && (decide ((((p + 1) : Nat) : Int) < ((p1 : Nat) : Int)))))]) (H' := [.box (.p ((eA eB 1 37) ((setR s p).1)))]) (fun A_ W_ hS => sl_obj_imp (d := .p ((eA eB 1 37) o)) 0 (.p ((eA eB 1 37) ((setR s p).1))) (by kernel_rfl) ?_ hS) ?_
        · refine impC_eq (congrArg (fun x => D.p ((eA eB 1 37) x)) (a₁ := o) (a₂ := ((setR s p).1)) ?_)
          first | (rw [setR, if_pos hc1, if_pos hc2]; done) | (rw [setR, if_pos hc1, if_pos hc2]; rfl) | (rw [setR, if_pos hc1, if_neg hc2]; done) | (rw [setR, if_pos hc1, if_neg hc2]; rfl) | (rw [setR, if_neg hc1, ← hi0_0, setL_1 (by omega) hc3 hc4]; done) | (rw [setR, if_neg hc1, ← hi0_0, setL_3 (by omega) hc3]; done)
        refine tr_pre (E' := (5, none, vint .i64 (((setR s p).2.1 : Nat) : Int)) :: [(4, none, .ref 0 []), (5, none, vint .i64 (((p1 + 1) : Nat) : Int)), (6, none, vbool ((decide (((p1 : Nat) : Int) < ((s.length : Nat) : Int))) && (decide ((((p + 1) : Nat) : Int) < ((p1 : Nat) : Int)))))]) (H' := [.box (.p ((eA eB 1 37) ((setR s p).1)))]) (fun A_ W_ hS => sl_set_imp (d := vint .i64 (((p1 + 1) : Nat) : Int)) 5 (vint .i64 (((setR s p).2.1 : Nat) : Int)) (by kernel_rfl) ?_ hS) ?_
        · refine imp_eq (congrArg (fun x => D.p (eI x)) (a₁ := (((p1 + 1) : Nat) : Int)) (a₂ := (((setR s p).2.1 : Nat) : Int)) ?_)
          first | (rw [setR, if_pos hc1, if_pos hc2]; done) | (rw [setR, if_pos hc1, if_pos hc2]; rfl) | (rw [setR, if_pos hc1, if_neg hc2]; done) | (rw [setR, if_pos hc1, if_neg hc2]; rfl) | (rw [setR, if_neg hc1, ← hi0_0, setL_1 (by omega) hc3 hc4]; done) | (rw [setR, if_neg hc1, ← hi0_0, setL_3 (by omega) hc3]; done)
        refine tr_pre (E' := [(4, none, .ref 0 []), (5, none, vint .i64 (((setR s p).2.1 : Nat) : Int)), (6, none, vbool ((decide (((p1 : Nat) : Int) < ((s.length : Nat) : Int))) && (decide ((((p + 1) : Nat) : Int) < ((p1 : Nat) : Int)))))]) (H' := [.box (.p ((eA eB 1 37) ((setR s p).1)))]) (fun A_ W_ hS => sl_proj (ts := [4, 5, 6]) (by kernel_rfl) hS) ?_
        refine tr_pre (E' := (6, none, vbool ((setR s p).2.2)) :: [(4, none, .ref 0 []), (5, none, vint .i64 (((setR s p).2.1 : Nat) : Int)), (6, none, vbool ((decide (((p1 : Nat) : Int) < ((s.length : Nat) : Int))) && (decide ((((p + 1) : Nat) : Int) < ((p1 : Nat) : Int)))))]) (H' := [.box (.p ((eA eB 1 37) ((setR s p).1)))]) (fun A_ W_ hS => sl_set_imp (d := vbool ((decide (((p1 : Nat) : Int) < ((s.length : Nat) : Int))) && (decide ((((p + 1) : Nat) : Int) < ((p1 : Nat) : Int))))) 6 (vbool ((setR s p).2.2)) (by kernel_rfl) ?_ hS) ?_
        · refine imp_eq (congrArg (fun x => D.p (eB x)) (a₁ := ((decide (((p1 : Nat) : Int) < ((s.length : Nat) : Int))) && (decide ((((p + 1) : Nat) : Int) < ((p1 : Nat) : Int))))) (a₂ := ((setR s p).2.2)) ?_)
          first | (rw [setR, if_pos hc1, if_pos hc2]; done) | (rw [setR, if_pos hc1, if_pos hc2]; rfl) | (rw [setR, if_pos hc1, if_neg hc2]; done) | (rw [setR, if_pos hc1, if_neg hc2]; rfl) | (rw [setR, if_neg hc1, ← hi0_0, setL_1 (by omega) hc3 hc4]; done) | (rw [setR, if_neg hc1, ← hi0_0, setL_3 (by omega) hc3]; done)
        refine tr_pre (E' := [(4, none, .ref 0 []), (5, none, vint .i64 (((setR s p).2.1 : Nat) : Int)), (6, none, vbool ((setR s p).2.2))]) (H' := [.box (.p ((eA eB 1 37) ((setR s p).1)))]) (fun A_ W_ hS => sl_proj (ts := [4, 5, 6]) (by kernel_rfl) hS) ?_
        exact tr_return' (vc := []) (ds := [.p ((eA eB 1 37) ((setR s p).1)), vint .i64 (((setR s p).2.1 : Nat) : Int), vbool ((setR s p).2.2)]) (by kernel_rfl) trivial (by kernel_rfl) (fun _ _ h => h)
end Go.Proofs.Ytjnjmnfacaakfaa
