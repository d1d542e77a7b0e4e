/-
  LanguageAnswers: whatever the input, the call returns true, and each argument reads afterwards as it read before. No conditions. (Part 6 of 8 of its proof.)
-/
import Derived.Test.YtjnjmnfacaakfaaCA5
import Derived.Test.YtjnjmnfacaakfaaRows
namespace Go.Proofs.Ytjnjmnfacaakfaa
open Go.Eng
def m0 (s : List UInt8) (p : Nat) : Int := sym (s.getD p 0).toNat
def memS (s : List UInt8) (p : Nat) : Nat → Bool := upd noSet (m0 s p).toNat true
def memR (s : List UInt8) (p : Nat) (first : Bool) : (Nat → Bool) × Nat × Bool :=
 if m0 s p < 0 then (noSet, p, false) else if m0 s p = 36 then (memS s p, p + 1, first) else
 if (s.length : Int) ≤ ((p + 1 : Nat) : Int) ∨ ((s.getD (p + 1) 0).toNat : Int) ≠ 45 then (memS s p, p + 1, true) else
 if (s.length : Int) ≤ ((p + 2 : Nat) : Int) then (memS s p, p, false) else
 if (m0 s (p + 2) < m0 s p ∨ m0 s (p + 2) = 36) ∨ m0 s p < 26 ∧ 26 ≤ m0 s (p + 2) then (memS s p, p, false) else
 (range (memS s p) (m0 s p) (m0 s (p + 2) + 1), p + 3, true)
theorem member_ok (s : List UInt8) (p : Nat) (first : Bool) (hb0 : s.length < 4611686018427387904) (hp : p < s.length) : Pure Try.prog 54 [.s s, .v (.int .i64 (p : Int)), .v (.bool first)] (.tup [.p ((eA eB 1 37) ((memR s p first).1)), vint .i64 (((memR s p first).2.1 : Nat) : Int), vbool ((memR s p first).2.2)]) := by
 have b0 := (s.getD p 0).toNat_lt
 have b1 := (s.getD (p + 2) 0).toNat_lt
 have q0 := sym_le ((s.getD p 0).toNat : Int)
 have q1 := sym_ge ((s.getD p 0).toNat : Int)
 have q2 := sym_le ((s.getD (p + 2) 0).toNat : Int)
 have q3 := sym_ge ((s.getD (p + 2) 0).toNat : Int)
 have e0 : m0 s p = sym ((s.getD p 0).toNat : Int) := rfl
 have e1 : m0 s (p + 2) = sym ((s.getD (p + 2) 0).toNat : Int) := rfl
 refine pure_of (fn := Try.f54) Try.func54 rfl rfl fun F_ W0_ => ?_
 refine tr_seq (q_t [0, 1, 2, 6] [vstr s, vint .i64 (p : Int), vbool first, .ref 0 []] [.box (.p ((eA eB 1 37) (fun _ => false)))] (tr_then (tr_seq (q_t [0, 1, 2, 6, 9] [vstr s, vint .i64 (p : Int), vbool first, .ref 0 [], .ref 1 []] [.box (.p ((eA eB 1 37) (fun _ => false))), .box (.p ((eA eB 1 37) (fun _ => false)))] (tr_then (tr_seq (q_k [(0 : Int) ≤ (p : Int), (p : Int) < (s.length : Int), Pure Try.prog 43 [.v (.int .u8 ((s.getD p 0).toNat : Int))] (vint .i64 (sym ((s.getD p 0).toNat : Int))), (sym ((s.getD p 0).toNat : Int)) = (m0 s p)] [0, 1, 2, 6, 9, 10] [vstr s, vint .i64 (p : Int), vbool first, .ref 0 [], .ref 1 [], vint .i64 (m0 s p)] [(4, vint .i64 (m0 s p))] [(3, vint .i64 (sym ((s.getD p 0).toNat : Int)))] ?_ ?_)))))))
 ·refine al (by omega) (al (by omega) (al ?_ (al (by omega) (trivial))))
  ·first | exact refSymbolB_ok _ | exact refSymbol_ok _ (by omega) (by omega)
 refine tr_then (tr_seq (tr_seq (q_m [0, 1, 2, 6, 9, 10, 18] [vstr s, vint .i64 (p : Int), vbool first, .ref 0 [], .ref 1 [], vint .i64 (m0 s p), vbool (decide ((m0 s p) < 0))] (tr_then (q_e ((m0 s p) < 0) (fun hc1 => ?_) (fun hc1 => ?_))))))
 ·refine tr_seq (q_m [6, 7, 8] [.ref 0 [], vint .i64 (p : Int), vbool false] (tr_then (tr_pre (E' := [(6, none, .ref 0 []), (7, none, vint .i64 (p : Int)), (8, none, vbool false)]) (H' := [.box (.p ((eA eB 1 37) (fun _ => false)))]) (fun _ _ h => q_w [0] [6, 7, 8] h) (tr_pre (fun _ _ => sl_obj_imp (d := .p ((eA eB 1 37) (fun _ => false))) 0 (.p ((eA eB 1 37) ((memR s p first).1))) (by kernel_rfl) ?_) ?_))))
  ·refine impC_eq (congrArg (fun x => D.p ((eA eB 1 37) x)) (a₁ := (fun _ => false)) (a₂ := ((memR s p first).1)) ?_)
   first | (rw [memR, if_pos hc1]; done) | (rw [memR, if_pos hc1]; rfl) | (rw [memR, if_neg hc1, if_pos hc2]; done) | (rw [memR, if_neg hc1, if_pos hc2]; rfl) | (rw [memR, if_neg hc1, if_neg hc2, if_pos hc3]; done) | (rw [memR, if_neg hc1, if_neg hc2, if_pos hc3]; rfl) | (rw [memR, if_neg hc1, if_neg hc2, if_neg hc3, if_pos hc4]; done) | (rw [memR, if_neg hc1, if_neg hc2, if_neg hc3, if_pos hc4]; rfl) | (rw [memR, if_neg hc1, if_neg hc2, if_neg hc3, if_neg hc4, if_pos hc5]; done) | (rw [memR, if_neg hc1, if_neg hc2, if_neg hc3, if_neg hc4, if_pos hc5]; rfl) | (rw [memR, if_neg hc1, if_neg hc2, if_neg hc3, if_neg hc4, if_neg hc5, show m0 s (p + 2) + 1 = m0 s p + k by omega]; done) | (rw [memR, if_neg hc1, if_neg hc2, if_neg hc3, if_neg hc4, if_neg hc5, show m0 s (p + 2) + 1 = m0 s p + k by omega]; rfl)
  refine q_i (d := vint .i64 (p : Int)) 7 (vint .i64 (((memR s p first).2.1 : Nat) : Int)) ?_ ?_
  ·refine imp_eq (congrArg (fun x => D.p (eI x)) (a₁ := (p : Int)) (a₂ := (((memR s p first).2.1 : Nat) : Int)) ?_)
   first | (rw [memR, if_pos hc1]; done) | (rw [memR, if_pos hc1]; rfl) | (rw [memR, if_neg hc1, if_pos hc2]; done) | (rw [memR, if_neg hc1, if_pos hc2]; rfl) | (rw [memR, if_neg hc1, if_neg hc2, if_pos hc3]; done) | (rw [memR, if_neg hc1, if_neg hc2, if_pos hc3]; rfl) | (rw [memR, if_neg hc1, if_neg hc2, if_neg hc3, if_pos hc4]; done) | (rw [memR, if_neg hc1, if_neg hc2, if_neg hc3, if_pos hc4]; rfl) | (rw [memR, if_neg hc1, if_neg hc2, if_neg hc3, if_neg hc4, if_pos hc5]; done) | (rw [memR, if_neg hc1, if_neg hc2, if_neg hc3, if_neg hc4, if_pos hc5]; rfl) | (rw [memR, if_neg hc1, if_neg hc2, if_neg hc3, if_neg hc4, if_neg hc5, show m0 s (p + 2) + 1 = m0 s p + k by omega]; done) | (rw [memR, if_neg hc1, if_neg hc2, if_neg hc3, if_neg hc4, if_neg hc5, show m0 s (p + 2) + 1 = m0 s p + k by omega]; rfl)
  refine q_i (d := vbool false) 8 (vbool ((memR s p first).2.2)) ?_ ?_
  ·refine imp_eq (congrArg (fun x => D.p (eB x)) (a₁ := false) (a₂ := ((memR s p first).2.2)) ?_)
   first | (rw [memR, if_pos hc1]; done) | (rw [memR, if_pos hc1]; rfl) | (rw [memR, if_neg hc1, if_pos hc2]; done) | (rw [memR, if_neg hc1, if_pos hc2]; rfl) | (rw [memR, if_neg hc1, if_neg hc2, if_pos hc3]; done) | (rw [memR, if_neg hc1, if_neg hc2, if_pos hc3]; rfl) | (rw [memR, if_neg hc1, if_neg hc2, if_neg hc3, if_pos hc4]; done) | (rw [memR, if_neg hc1, if_neg hc2, if_neg hc3, if_pos hc4]; rfl) | (rw [memR, if_neg hc1, if_neg hc2, if_neg hc3, if_neg hc4, if_pos hc5]; done) | (rw [memR, if_neg hc1, if_neg hc2, if_neg hc3, if_neg hc4, if_pos hc5]; rfl) | (rw [memR, if_neg hc1, if_neg hc2, if_neg hc3, if_neg hc4, if_neg hc5, show m0 s (p + 2) + 1 = m0 s p + k by omega]; done) | (rw [memR, if_neg hc1, if_neg hc2, if_neg hc3, if_neg hc4, if_neg hc5, show m0 s (p + 2) + 1 = m0 s p + k by omega]; rfl)
  exact q_z [.p ((eA eB 1 37) ((memR s p first).1)), vint .i64 (((memR s p first).2.1 : Nat) : Int), vbool ((memR s p first).2.2)] (fun _ _ h => h)
 ·refine tr_skip (tr_then (tr_seq (q_s [(0 : Int) ≤ (m0 s p), (m0 s p) < (37 : Int), (m0 s p).toNat < 37] [0, 1, 2, 6, 9, 10] [vstr s, vint .i64 (p : Int), vbool first, .ref 0 [], .ref 1 [], vint .i64 (m0 s p)] [.box (.p ((eA eB 1 37) (fun _ => false))), .box (.p (.vec 1 37 (upd (fun i => eB ((fun _ => false) i)) ((m0 s p).toNat) (.v (.bool true)))))] (al (by omega) (al (by omega) (al (by omega) (trivial)))) (nm_pre (fun _ _ => sl_obj (o := .box (.p (.vec 1 37 (upd (fun i => eB ((fun _ => false) i)) ((m0 s p).toNat) (.v (.bool true)))))) 1 (.box (.p ((eA eB 1 37) (upd (fun _ => false) ((m0 s p).toNat) true)))) (by kernel_rfl) (by exact congrArg (fun y => O.box (D.p y)) (vec_upd (e := eB) (f := (fun _ => false)) (k := ((m0 s p).toNat)) (x := true)))) (tr_then (tr_seq (tr_seq (q_m [0, 1, 2, 6, 9, 10, 24] [vstr s, vint .i64 (p : Int), vbool first, .ref 0 [], .ref 1 [], vint .i64 (m0 s p), vbool ((m0 s p) == 36)] (tr_then (q_c ((m0 s p) == 36) ((m0 s p) = 36) (fun hc2 => ?_) (fun hc2 => ?_)))))))))))
  ·refine tr_seq (q_r [(IntKind.wrap .i64 ((p : Int) + 1)) = (((p + 1) : Nat) : Int)] [6, 7, 8] [.ref 0 [], vint .i64 (((p + 1) : Nat) : Int), vbool first] [.box (.p ((eA eB 1 37) (upd (fun _ => false) ((m0 s p).toNat) true))), .box (.p ((eA eB 1 37) (upd (fun _ => false) ((m0 s p).toNat) true)))] [(2, vint .i64 (((p + 1) : Nat) : Int))] [] (al (wr64 (by omega) (by omega) (by omega)) (trivial)) (tr_then (tr_pre (E' := [(6, none, .ref 0 []), (7, none, vint .i64 (((p + 1) : Nat) : Int)), (8, none, vbool first)]) (H' := [.box (.p ((eA eB 1 37) (upd (fun _ => false) ((m0 s p).toNat) true)))]) (fun _ _ h => q_w [0] [6, 7, 8] h) (tr_pre (fun _ _ => sl_obj_imp (d := .p ((eA eB 1 37) (upd (fun _ => false) ((m0 s p).toNat) true))) 0 (.p ((eA eB 1 37) ((memR s p first).1))) (by kernel_rfl) ?_) ?_))))
   ·refine impC_eq (congrArg (fun x => D.p ((eA eB 1 37) x)) (a₁ := (upd (fun _ => false) ((m0 s p).toNat) true)) (a₂ := ((memR s p first).1)) ?_)
    first | (rw [memR, if_pos hc1]; done) | (rw [memR, if_pos hc1]; rfl) | (rw [memR, if_neg hc1, if_pos hc2]; done) | (rw [memR, if_neg hc1, if_pos hc2]; rfl) | (rw [memR, if_neg hc1, if_neg hc2, if_pos hc3]; done) | (rw [memR, if_neg hc1, if_neg hc2, if_pos hc3]; rfl) | (rw [memR, if_neg hc1, if_neg hc2, if_neg hc3, if_pos hc4]; done) | (rw [memR, if_neg hc1, if_neg hc2, if_neg hc3, if_pos hc4]; rfl) | (rw [memR, if_neg hc1, if_neg hc2, if_neg hc3, if_neg hc4, if_pos hc5]; done) | (rw [memR, if_neg hc1, if_neg hc2, if_neg hc3, if_neg hc4, if_pos hc5]; rfl) | (rw [memR, if_neg hc1, if_neg hc2, if_neg hc3, if_neg hc4, if_neg hc5, show m0 s (p + 2) + 1 = m0 s p + k by omega]; done) | (rw [memR, if_neg hc1, if_neg hc2, if_neg hc3, if_neg hc4, if_neg hc5, show m0 s (p + 2) + 1 = m0 s p + k by omega]; rfl)
   refine q_i (d := vint .i64 (((p + 1) : Nat) : Int)) 7 (vint .i64 (((memR s p first).2.1 : Nat) : Int)) ?_ ?_
   ·refine imp_eq (congrArg (fun x => D.p (eI x)) (a₁ := (((p + 1) : Nat) : Int)) (a₂ := (((memR s p first).2.1 : Nat) : Int)) ?_)
    first | (rw [memR, if_pos hc1]; done) | (rw [memR, if_pos hc1]; rfl) | (rw [memR, if_neg hc1, if_pos hc2]; done) | (rw [memR, if_neg hc1, if_pos hc2]; rfl) | (rw [memR, if_neg hc1, if_neg hc2, if_pos hc3]; done) | (rw [memR, if_neg hc1, if_neg hc2, if_pos hc3]; rfl) | (rw [memR, if_neg hc1, if_neg hc2, if_neg hc3, if_pos hc4]; done) | (rw [memR, if_neg hc1, if_neg hc2, if_neg hc3, if_pos hc4]; rfl) | (rw [memR, if_neg hc1, if_neg hc2, if_neg hc3, if_neg hc4, if_pos hc5]; done) | (rw [memR, if_neg hc1, if_neg hc2, if_neg hc3, if_neg hc4, if_pos hc5]; rfl) | (rw [memR, if_neg hc1, if_neg hc2, if_neg hc3, if_neg hc4, if_neg hc5, show m0 s (p + 2) + 1 = m0 s p + k by omega]; done) | (rw [memR, if_neg hc1, if_neg hc2, if_neg hc3, if_neg hc4, if_neg hc5, show m0 s (p + 2) + 1 = m0 s p + k by omega]; rfl)
   refine q_i (d := vbool first) 8 (vbool ((memR s p first).2.2)) ?_ ?_
   ·refine imp_eq (congrArg (fun x => D.p (eB x)) (a₁ := first) (a₂ := ((memR s p first).2.2)) ?_)
    first | (rw [memR, if_pos hc1]; done) | (rw [memR, if_pos hc1]; rfl) | (rw [memR, if_neg hc1, if_pos hc2]; done) | (rw [memR, if_neg hc1, if_pos hc2]; rfl) | (rw [memR, if_neg hc1, if_neg hc2, if_pos hc3]; done) | (rw [memR, if_neg hc1, if_neg hc2, if_pos hc3]; rfl) | (rw [memR, if_neg hc1, if_neg hc2, if_neg hc3, if_pos hc4]; done) | (rw [memR, if_neg hc1, if_neg hc2, if_neg hc3, if_pos hc4]; rfl) | (rw [memR, if_neg hc1, if_neg hc2, if_neg hc3, if_neg hc4, if_pos hc5]; done) | (rw [memR, if_neg hc1, if_neg hc2, if_neg hc3, if_neg hc4, if_pos hc5]; rfl) | (rw [memR, if_neg hc1, if_neg hc2, if_neg hc3, if_neg hc4, if_neg hc5, show m0 s (p + 2) + 1 = m0 s p + k by omega]; done) | (rw [memR, if_neg hc1, if_neg hc2, if_neg hc3, if_neg hc4, if_neg hc5, show m0 s (p + 2) + 1 = m0 s p + k by omega]; rfl)
   exact q_z [.p ((eA eB 1 37) ((memR s p first).1)), vint .i64 (((memR s p first).2.1 : Nat) : Int), vbool ((memR s p first).2.2)] (fun _ _ h => h)
  ·refine tr_skip (tr_then (tr_seq (tr_seq (q_k [(IntKind.wrap .i64 ((p : Int) + 1)) = (((p + 1) : Nat) : Int), (!(decide ((s.length : Int) ≤ (((p + 1) : Nat) : Int)))) = true → (!(decide ((s.length : Int) ≤ (((p + 1) : Nat) : Int)))) = true, (!(decide ((s.length : Int) ≤ (((p + 1) : Nat) : Int)))) = true → ((IntKind.wrap .i64 ((p : Int) + 1)) = (((p + 1) : Nat) : Int)), (!(decide ((s.length : Int) ≤ (((p + 1) : Nat) : Int)))) = true → (!(decide ((s.length : Int) ≤ (((p + 1) : Nat) : Int)))) = true, (!(decide ((s.length : Int) ≤ (((p + 1) : Nat) : Int)))) = true → (!(decide ((s.length : Int) ≤ (((p + 1) : Nat) : Int)))) = true, (!(decide ((s.length : Int) ≤ (((p + 1) : Nat) : Int)))) = true → ((0 : Int) ≤ (((p + 1) : Nat) : Int)), (!(decide ((s.length : Int) ≤ (((p + 1) : Nat) : Int)))) = true → ((((p + 1) : Nat) : Int) < (s.length : Int)), (!(decide ((s.length : Int) ≤ (((p + 1) : Nat) : Int)))) = true → (!(decide ((s.length : Int) ≤ (((p + 1) : Nat) : Int)))) = true, (!(decide ((s.length : Int) ≤ (((p + 1) : Nat) : Int)))) = true → (!(decide ((s.length : Int) ≤ (((p + 1) : Nat) : Int)))) = true] [0, 1, 6, 9, 10, 40] [vstr s, vint .i64 (p : Int), .ref 0 [], .ref 1 [], vint .i64 (m0 s p), vbool ((decide ((s.length : Int) ≤ (((p + 1) : Nat) : Int))) || (((s.getD (p + 1) 0).toNat : Int) != 45))] [(1, vint .i64 (((p + 1) : Nat) : Int)), (8, vint .i64 (((p + 1) : Nat) : Int))] [] (al (wr64 (by omega) (by omega) (by omega)) (al id (al (by intro _; exact wr64 (by omega) (by omega) (by omega)) (al id (al id (al (by omega) (al (by intro hg; simp at hg; omega) (al id (al id (trivial)))))))))) (tr_then (q_c ((decide ((s.length : Int) ≤ (((p + 1) : Nat) : Int))) || (((s.getD (p + 1) 0).toNat : Int) != 45)) (((s.length : Int) ≤ (((p + 1) : Nat) : Int)) ∨ (((s.getD (p + 1) 0).toNat : Int) ≠ 45)) (fun hc3 => ?_) (fun hc3 => ?_)))))))
   ·refine tr_seq (q_r [(IntKind.wrap .i64 ((p : Int) + 1)) = (((p + 1) : Nat) : Int)] [6, 7, 8] [.ref 0 [], vint .i64 (((p + 1) : Nat) : Int), vbool true] [.box (.p ((eA eB 1 37) (upd (fun _ => false) ((m0 s p).toNat) true))), .box (.p ((eA eB 1 37) (upd (fun _ => false) ((m0 s p).toNat) true)))] [(2, vint .i64 (((p + 1) : Nat) : Int))] [] (al (wr64 (by omega) (by omega) (by omega)) (trivial)) (tr_then (tr_pre (E' := [(6, none, .ref 0 []), (7, none, vint .i64 (((p + 1) : Nat) : Int)), (8, none, vbool true)]) (H' := [.box (.p ((eA eB 1 37) (upd (fun _ => false) ((m0 s p).toNat) true)))]) (fun _ _ h => q_w [0] [6, 7, 8] h) (tr_pre (fun _ _ => sl_obj_imp (d := .p ((eA eB 1 37) (upd (fun _ => false) ((m0 s p).toNat) true))) 0 (.p ((eA eB 1 37) ((memR s p first).1))) (by kernel_rfl) ?_) ?_))))
    ·refine impC_eq (congrArg (fun x => D.p ((eA eB 1 37) x)) (a₁ := (upd (fun _ => false) ((m0 s p).toNat) true)) (a₂ := ((memR s p first).1)) ?_)
     first | (rw [memR, if_pos hc1]; done) | (rw [memR, if_pos hc1]; rfl) | (rw [memR, if_neg hc1, if_pos hc2]; done) | (rw [memR, if_neg hc1, if_pos hc2]; rfl) | (rw [memR, if_neg hc1, if_neg hc2, if_pos hc3]; done) | (rw [memR, if_neg hc1, if_neg hc2, if_pos hc3]; rfl) | (rw [memR, if_neg hc1, if_neg hc2, if_neg hc3, if_pos hc4]; done) | (rw [memR, if_neg hc1, if_neg hc2, if_neg hc3, if_pos hc4]; rfl) | (rw [memR, if_neg hc1, if_neg hc2, if_neg hc3, if_neg hc4, if_pos hc5]; done) | (rw [memR, if_neg hc1, if_neg hc2, if_neg hc3, if_neg hc4, if_pos hc5]; rfl) | (rw [memR, if_neg hc1, if_neg hc2, if_neg hc3, if_neg hc4, if_neg hc5, show m0 s (p + 2) + 1 = m0 s p + k by omega]; done) | (rw [memR, if_neg hc1, if_neg hc2, if_neg hc3, if_neg hc4, if_neg hc5, show m0 s (p + 2) + 1 = m0 s p + k by omega]; rfl)
    refine q_i (d := vint .i64 (((p + 1) : Nat) : Int)) 7 (vint .i64 (((memR s p first).2.1 : Nat) : Int)) ?_ ?_
    ·refine imp_eq (congrArg (fun x => D.p (eI x)) (a₁ := (((p + 1) : Nat) : Int)) (a₂ := (((memR s p first).2.1 : Nat) : Int)) ?_)
     first | (rw [memR, if_pos hc1]; done) | (rw [memR, if_pos hc1]; rfl) | (rw [memR, if_neg hc1, if_pos hc2]; done) | (rw [memR, if_neg hc1, if_pos hc2]; rfl) | (rw [memR, if_neg hc1, if_neg hc2, if_pos hc3]; done) | (rw [memR, if_neg hc1, if_neg hc2, if_pos hc3]; rfl) | (rw [memR, if_neg hc1, if_neg hc2, if_neg hc3, if_pos hc4]; done) | (rw [memR, if_neg hc1, if_neg hc2, if_neg hc3, if_pos hc4]; rfl) | (rw [memR, if_neg hc1, if_neg hc2, if_neg hc3, if_neg hc4, if_pos hc5]; done) | (rw [memR, if_neg hc1, if_neg hc2, if_neg hc3, if_neg hc4, if_pos hc5]; rfl) | (rw [memR, if_neg hc1, if_neg hc2, if_neg hc3, if_neg hc4, if_neg hc5, show m0 s (p + 2) + 1 = m0 s p + k by omega]; done) | (rw [memR, if_neg hc1, if_neg hc2, if_neg hc3, if_neg hc4, if_neg hc5, show m0 s (p + 2) + 1 = m0 s p + k by omega]; rfl)
    refine q_i (d := vbool true) 8 (vbool ((memR s p first).2.2)) ?_ ?_
    ·refine imp_eq (congrArg (fun x => D.p (eB x)) (a₁ := true) (a₂ := ((memR s p first).2.2)) ?_)
     first | (rw [memR, if_pos hc1]; done) | (rw [memR, if_pos hc1]; rfl) | (rw [memR, if_neg hc1, if_pos hc2]; done) | (rw [memR, if_neg hc1, if_pos hc2]; rfl) | (rw [memR, if_neg hc1, if_neg hc2, if_pos hc3]; done) | (rw [memR, if_neg hc1, if_neg hc2, if_pos hc3]; rfl) | (rw [memR, if_neg hc1, if_neg hc2, if_neg hc3, if_pos hc4]; done) | (rw [memR, if_neg hc1, if_neg hc2, if_neg hc3, if_pos hc4]; rfl) | (rw [memR, if_neg hc1, if_neg hc2, if_neg hc3, if_neg hc4, if_pos hc5]; done) | (rw [memR, if_neg hc1, if_neg hc2, if_neg hc3, if_neg hc4, if_pos hc5]; rfl) | (rw [memR, if_neg hc1, if_neg hc2, if_neg hc3, if_neg hc4, if_neg hc5, show m0 s (p + 2) + 1 = m0 s p + k by omega]; done) | (rw [memR, if_neg hc1, if_neg hc2, if_neg hc3, if_neg hc4, if_neg hc5, show m0 s (p + 2) + 1 = m0 s p + k by omega]; rfl)
    exact q_z [.p ((eA eB 1 37) ((memR s p first).1)), vint .i64 (((memR s p first).2.1 : Nat) : Int), vbool ((memR s p first).2.2)] (fun _ _ h => h)
   ·refine tr_skip (tr_then (tr_seq (tr_seq (q_k [(IntKind.wrap .i64 ((p : Int) + 2)) = (((p + 2) : Nat) : Int)] [0, 1, 6, 9, 10, 48] [vstr s, vint .i64 (p : Int), .ref 0 [], .ref 1 [], vint .i64 (m0 s p), vbool (decide ((s.length : Int) ≤ (((p + 2) : Nat) : Int)))] [(1, vint .i64 (((p + 2) : Nat) : Int))] [] (al (wr64 (by omega) (by omega) (by omega)) (trivial)) (tr_then (q_e ((s.length : Int) ≤ (((p + 2) : Nat) : Int)) (fun hc4 => ?_) (fun hc4 => ?_)))))))
    ·refine tr_seq (q_t [6, 7, 8] [.ref 0 [], vint .i64 (p : Int), vbool false] [.box (.p ((eA eB 1 37) (upd (fun _ => false) ((m0 s p).toNat) true))), .box (.p ((eA eB 1 37) (upd (fun _ => false) ((m0 s p).toNat) true)))] (tr_then (tr_pre (E' := [(6, none, .ref 0 []), (7, none, vint .i64 (p : Int)), (8, none, vbool false)]) (H' := [.box (.p ((eA eB 1 37) (upd (fun _ => false) ((m0 s p).toNat) true)))]) (fun _ _ h => q_w [0] [6, 7, 8] h) (tr_pre (fun _ _ => sl_obj_imp (d := .p ((eA eB 1 37) (upd (fun _ => false) ((m0 s p).toNat) true))) 0 (.p ((eA eB 1 37) ((memR s p first).1))) (by kernel_rfl) ?_) ?_))))
     ·refine impC_eq (congrArg (fun x => D.p ((eA eB 1 37) x)) (a₁ := (upd (fun _ => false) ((m0 s p).toNat) true)) (a₂ := ((memR s p first).1)) ?_)
      first | (rw [memR, if_pos hc1]; done) | (rw [memR, if_pos hc1]; rfl) | (rw [memR, if_neg hc1, if_pos hc2]; done) | (rw [memR, if_neg hc1, if_pos hc2]; rfl) | (rw [memR, if_neg hc1, if_neg hc2, if_pos hc3]; done) | (rw [memR, if_neg hc1, if_neg hc2, if_pos hc3]; rfl) | (rw [memR, if_neg hc1, if_neg hc2, if_neg hc3, if_pos hc4]; done) | (rw [memR, if_neg hc1, if_neg hc2, if_neg hc3, if_pos hc4]; rfl) | (rw [memR, if_neg hc1, if_neg hc2, if_neg hc3, if_neg hc4, if_pos hc5]; done) | (rw [memR, if_neg hc1, if_neg hc2, if_neg hc3, if_neg hc4, if_pos hc5]; rfl) | (rw [memR, if_neg hc1, if_neg hc2, if_neg hc3, if_neg hc4, if_neg hc5, show m0 s (p + 2) + 1 = m0 s p + k by omega]; done) | (rw [memR, if_neg hc1, if_neg hc2, if_neg hc3, if_neg hc4, if_neg hc5, show m0 s (p + 2) + 1 = m0 s p + k by omega]; rfl)
     refine q_i (d := vint .i64 (p : Int)) 7 (vint .i64 (((memR s p first).2.1 : Nat) : Int)) ?_ ?_
     ·refine imp_eq (congrArg (fun x => D.p (eI x)) (a₁ := (p : Int)) (a₂ := (((memR s p first).2.1 : Nat) : Int)) ?_)
      first | (rw [memR, if_pos hc1]; done) | (rw [memR, if_pos hc1]; rfl) | (rw [memR, if_neg hc1, if_pos hc2]; done) | (rw [memR, if_neg hc1, if_pos hc2]; rfl) | (rw [memR, if_neg hc1, if_neg hc2, if_pos hc3]; done) | (rw [memR, if_neg hc1, if_neg hc2, if_pos hc3]; rfl) | (rw [memR, if_neg hc1, if_neg hc2, if_neg hc3, if_pos hc4]; done) | (rw [memR, if_neg hc1, if_neg hc2, if_neg hc3, if_pos hc4]; rfl) | (rw [memR, if_neg hc1, if_neg hc2, if_neg hc3, if_neg hc4, if_pos hc5]; done) | (rw [memR, if_neg hc1, if_neg hc2, if_neg hc3, if_neg hc4, if_pos hc5]; rfl) | (rw [memR, if_neg hc1, if_neg hc2, if_neg hc3, if_neg hc4, if_neg hc5, show m0 s (p + 2) + 1 = m0 s p + k by omega]; done) | (rw [memR, if_neg hc1, if_neg hc2, if_neg hc3, if_neg hc4, if_neg hc5, show m0 s (p + 2) + 1 = m0 s p + k by omega]; rfl)
     refine q_i (d := vbool false) 8 (vbool ((memR s p first).2.2)) ?_ ?_
     ·refine imp_eq (congrArg (fun x => D.p (eB x)) (a₁ := false) (a₂ := ((memR s p first).2.2)) ?_)
      first | (rw [memR, if_pos hc1]; done) | (rw [memR, if_pos hc1]; rfl) | (rw [memR, if_neg hc1, if_pos hc2]; done) | (rw [memR, if_neg hc1, if_pos hc2]; rfl) | (rw [memR, if_neg hc1, if_neg hc2, if_pos hc3]; done) | (rw [memR, if_neg hc1, if_neg hc2, if_pos hc3]; rfl) | (rw [memR, if_neg hc1, if_neg hc2, if_neg hc3, if_pos hc4]; done) | (rw [memR, if_neg hc1, if_neg hc2, if_neg hc3, if_pos hc4]; rfl) | (rw [memR, if_neg hc1, if_neg hc2, if_neg hc3, if_neg hc4, if_pos hc5]; done) | (rw [memR, if_neg hc1, if_neg hc2, if_neg hc3, if_neg hc4, if_pos hc5]; rfl) | (rw [memR, if_neg hc1, if_neg hc2, if_neg hc3, if_neg hc4, if_neg hc5, show m0 s (p + 2) + 1 = m0 s p + k by omega]; done) | (rw [memR, if_neg hc1, if_neg hc2, if_neg hc3, if_neg hc4, if_neg hc5, show m0 s (p + 2) + 1 = m0 s p + k by omega]; rfl)
     exact q_z [.p ((eA eB 1 37) ((memR s p first).1)), vint .i64 (((memR s p first).2.1 : Nat) : Int), vbool ((memR s p first).2.2)] (fun _ _ h => h)
    ·refine tr_skip (tr_then (tr_seq (q_k [(IntKind.wrap .i64 ((p : Int) + 2)) = (((p + 2) : Nat) : Int), (0 : Int) ≤ (((p + 2) : Nat) : Int), (((p + 2) : Nat) : Int) < (s.length : Int), Pure Try.prog 43 [.v (.int .u8 ((s.getD (p + 2) 0).toNat : Int))] (vint .i64 (sym ((s.getD (p + 2) 0).toNat : Int))), (sym ((s.getD (p + 2) 0).toNat : Int)) = (m0 s (p + 2))] [1, 6, 9, 10, 11] [vint .i64 (p : Int), .ref 0 [], .ref 1 [], vint .i64 (m0 s p), vint .i64 (m0 s (p + 2))] [(2, vint .i64 (((p + 2) : Nat) : Int)), (5, vint .i64 (m0 s (p + 2)))] [(4, vint .i64 (sym ((s.getD (p + 2) 0).toNat : Int)))] ?_ ?_)))
     ·refine al (wr64 (by omega) (by omega) (by omega)) (al (by omega) (al (by omega) (al ?_ (al (by omega) (trivial)))))
      ·first | exact refSymbolB_ok _ | exact refSymbol_ok _ (by omega) (by omega)
     refine tr_then (tr_seq (tr_seq (q_l [(!(decide ((m0 s (p + 2)) < (m0 s p)))) = true → (!(decide ((m0 s (p + 2)) < (m0 s p)))) = true, (!(decide ((m0 s (p + 2)) < (m0 s p)))) = true → (!(decide ((m0 s (p + 2)) < (m0 s p)))) = true, (!((decide ((m0 s (p + 2)) < (m0 s p))) || ((m0 s (p + 2)) == 36))) = true → (!((decide ((m0 s (p + 2)) < (m0 s p))) || ((m0 s (p + 2)) == 36))) = true, (!((decide ((m0 s (p + 2)) < (m0 s p))) || ((m0 s (p + 2)) == 36))) = true → (!((decide ((m0 s (p + 2)) < (m0 s p))) || ((m0 s (p + 2)) == 36))) = true, ((!((decide ((m0 s (p + 2)) < (m0 s p))) || ((m0 s (p + 2)) == 36))) && (decide ((m0 s p) < 26))) = true → ((!((decide ((m0 s (p + 2)) < (m0 s p))) || ((m0 s (p + 2)) == 36))) && (decide ((m0 s p) < 26))) = true, (!((decide ((m0 s (p + 2)) < (m0 s p))) || ((m0 s (p + 2)) == 36))) = true → ((!((decide ((m0 s (p + 2)) < (m0 s p))) || ((m0 s (p + 2)) == 36))) = true → (!((decide ((m0 s (p + 2)) < (m0 s p))) || ((m0 s (p + 2)) == 36))) = true), ((!((decide ((m0 s (p + 2)) < (m0 s p))) || ((m0 s (p + 2)) == 36))) && (decide ((m0 s p) < 26))) = true → ((!((decide ((m0 s (p + 2)) < (m0 s p))) || ((m0 s (p + 2)) == 36))) && (decide ((m0 s p) < 26))) = true, (!((decide ((m0 s (p + 2)) < (m0 s p))) || ((m0 s (p + 2)) == 36))) = true → (!((decide ((m0 s (p + 2)) < (m0 s p))) || ((m0 s (p + 2)) == 36))) = true] [1, 6, 9, 10, 11, 70] [vint .i64 (p : Int), .ref 0 [], .ref 1 [], vint .i64 (m0 s p), vint .i64 (m0 s (p + 2)), vbool (((decide ((m0 s (p + 2)) < (m0 s p))) || ((m0 s (p + 2)) == 36)) || ((decide ((m0 s p) < 26)) && (decide (26 ≤ (m0 s (p + 2))))))] (al id (al id (al id (al id (al id (al (by intro _; exact id) (al id (al id (trivial))))))))) (tr_then (q_c (((decide ((m0 s (p + 2)) < (m0 s p))) || ((m0 s (p + 2)) == 36)) || ((decide ((m0 s p) < 26)) && (decide (26 ≤ (m0 s (p + 2)))))) ((((m0 s (p + 2)) < (m0 s p)) ∨ ((m0 s (p + 2)) = 36)) ∨ (((m0 s p) < 26) ∧ (26 ≤ (m0 s (p + 2))))) (fun hc5 => ?_) (fun hc5 => ?_))))))
     ·refine tr_seq (q_t [6, 7, 8] [.ref 0 [], vint .i64 (p : Int), vbool false] [.box (.p ((eA eB 1 37) (upd (fun _ => false) ((m0 s p).toNat) true))), .box (.p ((eA eB 1 37) (upd (fun _ => false) ((m0 s p).toNat) true)))] (tr_then (tr_pre (E' := [(6, none, .ref 0 []), (7, none, vint .i64 (p : Int)), (8, none, vbool false)]) (H' := [.box (.p ((eA eB 1 37) (upd (fun _ => false) ((m0 s p).toNat) true)))]) (fun _ _ h => q_w [0] [6, 7, 8] h) (tr_pre (fun _ _ => sl_obj_imp (d := .p ((eA eB 1 37) (upd (fun _ => false) ((m0 s p).toNat) true))) 0 (.p ((eA eB 1 37) ((memR s p first).1))) (by kernel_rfl) ?_) ?_))))
      ·refine impC_eq (congrArg (fun x => D.p ((eA eB 1 37) x)) (a₁ := (upd (fun _ => false) ((m0 s p).toNat) true)) (a₂ := ((memR s p first).1)) ?_)
       first | (rw [memR, if_pos hc1]; done) | (rw [memR, if_pos hc1]; rfl) | (rw [memR, if_neg hc1, if_pos hc2]; done) | (rw [memR, if_neg hc1, if_pos hc2]; rfl) | (rw [memR, if_neg hc1, if_neg hc2, if_pos hc3]; done) | (rw [memR, if_neg hc1, if_neg hc2, if_pos hc3]; rfl) | (rw [memR, if_neg hc1, if_neg hc2, if_neg hc3, if_pos hc4]; done) | (rw [memR, if_neg hc1, if_neg hc2, if_neg hc3, if_pos hc4]; rfl) | (rw [memR, if_neg hc1, if_neg hc2, if_neg hc3, if_neg hc4, if_pos hc5]; done) | (rw [memR, if_neg hc1, if_neg hc2, if_neg hc3, if_neg hc4, if_pos hc5]; rfl) | (rw [memR, if_neg hc1, if_neg hc2, if_neg hc3, if_neg hc4, if_neg hc5, show m0 s (p + 2) + 1 = m0 s p + k by omega]; done) | (rw [memR, if_neg hc1, if_neg hc2, if_neg hc3, if_neg hc4, if_neg hc5, show m0 s (p + 2) + 1 = m0 s p + k by omega]; rfl)
      refine q_i (d := vint .i64 (p : Int)) 7 (vint .i64 (((memR s p first).2.1 : Nat) : Int)) ?_ ?_
      ·refine imp_eq (congrArg (fun x => D.p (eI x)) (a₁ := (p : Int)) (a₂ := (((memR s p first).2.1 : Nat) : Int)) ?_)
       first | (rw [memR, if_pos hc1]; done) | (rw [memR, if_pos hc1]; rfl) | (rw [memR, if_neg hc1, if_pos hc2]; done) | (rw [memR, if_neg hc1, if_pos hc2]; rfl) | (rw [memR, if_neg hc1, if_neg hc2, if_pos hc3]; done) | (rw [memR, if_neg hc1, if_neg hc2, if_pos hc3]; rfl) | (rw [memR, if_neg hc1, if_neg hc2, if_neg hc3, if_pos hc4]; done) | (rw [memR, if_neg hc1, if_neg hc2, if_neg hc3, if_pos hc4]; rfl) | (rw [memR, if_neg hc1, if_neg hc2, if_neg hc3, if_neg hc4, if_pos hc5]; done) | (rw [memR, if_neg hc1, if_neg hc2, if_neg hc3, if_neg hc4, if_pos hc5]; rfl) | (rw [memR, if_neg hc1, if_neg hc2, if_neg hc3, if_neg hc4, if_neg hc5, show m0 s (p + 2) + 1 = m0 s p + k by omega]; done) | (rw [memR, if_neg hc1, if_neg hc2, if_neg hc3, if_neg hc4, if_neg hc5, show m0 s (p + 2) + 1 = m0 s p + k by omega]; rfl)
      refine q_i (d := vbool false) 8 (vbool ((memR s p first).2.2)) ?_ ?_
      ·refine imp_eq (congrArg (fun x => D.p (eB x)) (a₁ := false) (a₂ := ((memR s p first).2.2)) ?_)
       first | (rw [memR, if_pos hc1]; done) | (rw [memR, if_pos hc1]; rfl) | (rw [memR, if_neg hc1, if_pos hc2]; done) | (rw [memR, if_neg hc1, if_pos hc2]; rfl) | (rw [memR, if_neg hc1, if_neg hc2, if_pos hc3]; done) | (rw [memR, if_neg hc1, if_neg hc2, if_pos hc3]; rfl) | (rw [memR, if_neg hc1, if_neg hc2, if_neg hc3, if_pos hc4]; done) | (rw [memR, if_neg hc1, if_neg hc2, if_neg hc3, if_pos hc4]; rfl) | (rw [memR, if_neg hc1, if_neg hc2, if_neg hc3, if_neg hc4, if_pos hc5]; done) | (rw [memR, if_neg hc1, if_neg hc2, if_neg hc3, if_neg hc4, if_pos hc5]; rfl) | (rw [memR, if_neg hc1, if_neg hc2, if_neg hc3, if_neg hc4, if_neg hc5, show m0 s (p + 2) + 1 = m0 s p + k by omega]; done) | (rw [memR, if_neg hc1, if_neg hc2, if_neg hc3, if_neg hc4, if_neg hc5, show m0 s (p + 2) + 1 = m0 s p + k by omega]; rfl)
      exact q_z [.p ((eA eB 1 37) ((memR s p first).1)), vint .i64 (((memR s p first).2.1 : Nat) : Int), vbool ((memR s p first).2.2)] (fun _ _ h => h)
     ·refine tr_skip (tr_then (tr_seq (tr_seq (q_m [1, 6, 9, 11, 12] [vint .i64 (p : Int), .ref 0 [], .ref 1 [], vint .i64 (m0 s (p + 2)), vint .i64 (m0 s p)] (tr_then (tr_block (tr_loop (α := Nat) (fun z : Nat => (fun (k : Nat) => [(1, none, vint .i64 (p : Int)), (6, none, .ref 0 []), (9, none, .ref 1 []), (11, none, vint .i64 (m0 s (p + 2))), (12, none, vint .i64 (m0 s p + k))]) z) (fun z : Nat => (fun (k : Nat) => [.box (.p ((eA eB 1 37) (fun _ => false))), .box (.p ((eA eB 1 37) (range (memS s p) (m0 s p) (m0 s p + k))))]) z) (fun z : Nat => (fun (k : Nat) => (m0 s p + k ≤ m0 s (p + 2) + 1)) z) (fun z : Nat => (fun (k : Nat) => (m0 s (p + 2) + 1 - m0 s p - k).toNat) z) 0 ?_ ?_ ?_)))))))
      ·show (m0 s p + 0 ≤ m0 s (p + 2) + 1)
       ·omega
      ·intro A_ W_ hS
       replace hS := q_a (d := vint .i64 (m0 s p)) 12 (vint .i64 (m0 s p + 0)) (eqD_int (by omega)) hS
       replace hS := sl_obj_imp (d := .p ((eA eB 1 37) (upd (fun _ => false) ((m0 s p).toNat) true))) 1 (.p ((eA eB 1 37) (range (memS s p) (m0 s p) (m0 s p + 0)))) (by kernel_rfl) (impC_eq (congrArg (fun x => D.p ((eA eB 1 37) x)) (a₁ := (upd (fun _ => false) ((m0 s p).toNat) true)) (a₂ := (range (memS s p) (m0 s p) (m0 s p + 0))) (by rw [Int.add_zero, range_none]; rfl))) hS
       exact q_w [0, 1] [1, 6, 9, 11, 12] hS
      ·intro z hz
       revert z; intro k hz
       have hz : (m0 s p + k ≤ m0 s (p + 2) + 1) := hz
       have hi0_0 := hz
       refine tr_seq (tr_seq (q_t [1, 6, 9, 11, 12, 76] [vint .i64 (p : Int), .ref 0 [], .ref 1 [], vint .i64 (m0 s (p + 2)), vint .i64 (m0 s p + k), vbool (decide ((m0 s p + k) ≤ (m0 s (p + 2))))] [.box (.p ((eA eB 1 37) (fun _ => false))), .box (.p ((eA eB 1 37) (range (memS s p) (m0 s p) (m0 s p + k))))] (tr_then (q_e ((m0 s p + k) ≤ (m0 s (p + 2))) (fun hc6 => ?_) (fun hc6 => ?_)))))
       ·refine tr_skip (tr_then (tr_seq (tr_block (q_s [(0 : Int) ≤ (m0 s p + k), (m0 s p + k) < (37 : Int), (m0 s p + k).toNat < 37] [1, 6, 9, 11, 12] [vint .i64 (p : Int), .ref 0 [], .ref 1 [], vint .i64 (m0 s (p + 2)), vint .i64 (m0 s p + k)] [.box (.p ((eA eB 1 37) (fun _ => false))), .box (.p (.vec 1 37 (upd (fun i => eB ((range (memS s p) (m0 s p) (m0 s p + k)) i)) ((m0 s p + k).toNat) (.v (.bool true)))))] (al (by omega) (al (by omega) (al (by omega) (trivial)))) (nm_pre (fun _ _ => sl_obj (o := .box (.p (.vec 1 37 (upd (fun i => eB ((range (memS s p) (m0 s p) (m0 s p + k)) i)) ((m0 s p + k).toNat) (.v (.bool true)))))) 1 (.box (.p ((eA eB 1 37) (upd (range (memS s p) (m0 s p) (m0 s p + k)) ((m0 s p + k).toNat) true)))) (by kernel_rfl) (by exact congrArg (fun y => O.box (D.p y)) (vec_upd (e := eB) (f := (range (memS s p) (m0 s p) (m0 s p + k))) (k := ((m0 s p + k).toNat)) (x := true)))) (in_n (tr_then (q_k [(IntKind.wrap .i64 ((m0 s p + k) + 1)) = ((m0 s p + k) + 1)] [1, 6, 9, 11, 12] [vint .i64 (p : Int), .ref 0 [], .ref 1 [], vint .i64 (m0 s (p + 2)), vint .i64 ((m0 s p + k) + 1)] [(1, vint .i64 ((m0 s p + k) + 1))] [] (al (wr64 (by omega) (by omega) (by omega)) (trivial)) (lp_end (k + 1) ?_ ?_ ?_)))))))))
        ·show (m0 s p + (k + 1) ≤ m0 s (p + 2) + 1)
         ·omega
        ·show (m0 s (p + 2) + 1 - m0 s p - (k + 1)).toNat < (m0 s (p + 2) + 1 - m0 s p - k).toNat
         omega
        ·intro A_ W_ hS
         replace hS := q_a (d := vint .i64 ((m0 s p + k) + 1)) 12 (vint .i64 (m0 s p + (k + 1))) (eqD_int (by omega)) hS
         replace hS := sl_obj_imp (d := .p ((eA eB 1 37) (upd (range (memS s p) (m0 s p) (m0 s p + k)) ((m0 s p + k).toNat) true))) 1 (.p ((eA eB 1 37) (range (memS s p) (m0 s p) (m0 s p + (k + 1))))) (by kernel_rfl) (impC_eq (congrArg (fun x => D.p ((eA eB 1 37) x)) (a₁ := (upd (range (memS s p) (m0 s p) (m0 s p + k)) ((m0 s p + k).toNat) true)) (a₂ := (range (memS s p) (m0 s p) (m0 s p + (k + 1)))) (by rw [← Int.add_assoc]; exact range_step _ _ _ (by omega) (by omega)))) hS
         exact q_w [0, 1] [1, 6, 9, 11, 12] hS
       ·refine tr_exit (th_e (th_e (in_hit (tr_then (tr_seq (q_r [(IntKind.wrap .i64 ((p : Int) + 3)) = (((p + 3) : Nat) : Int)] [6, 7, 8] [.ref 0 [], vint .i64 (((p + 3) : Nat) : Int), vbool true] [.box (.p ((eA eB 1 37) (range (memS s p) (m0 s p) (m0 s p + k)))), .box (.p ((eA eB 1 37) (range (memS s p) (m0 s p) (m0 s p + k))))] [(2, vint .i64 (((p + 3) : Nat) : Int))] [] (al (wr64 (by omega) (by omega) (by omega)) (trivial)) (tr_then (tr_pre (E' := [(6, none, .ref 0 []), (7, none, vint .i64 (((p + 3) : Nat) : Int)), (8, none, vbool true)]) (H' := [.box (.p ((eA eB 1 37) (range (memS s p) (m0 s p) (m0 s p + k))))]) (fun _ _ h => q_w [0] [6, 7, 8] h) (tr_pre (fun _ _ => sl_obj_imp (d := .p ((eA eB 1 37) (range (memS s p) (m0 s p) (m0 s p + k)))) 0 (.p ((eA eB 1 37) ((memR s p first).1))) (by kernel_rfl) ?_) ?_)))))))))
        ·refine impC_eq (congrArg (fun x => D.p ((eA eB 1 37) x)) (a₁ := (range (memS s p) (m0 s p) (m0 s p + k))) (a₂ := ((memR s p first).1)) ?_)
         first | (rw [memR, if_pos hc1]; done) | (rw [memR, if_pos hc1]; rfl) | (rw [memR, if_neg hc1, if_pos hc2]; done) | (rw [memR, if_neg hc1, if_pos hc2]; rfl) | (rw [memR, if_neg hc1, if_neg hc2, if_pos hc3]; done) | (rw [memR, if_neg hc1, if_neg hc2, if_pos hc3]; rfl) | (rw [memR, if_neg hc1, if_neg hc2, if_neg hc3, if_pos hc4]; done) | (rw [memR, if_neg hc1, if_neg hc2, if_neg hc3, if_pos hc4]; rfl) | (rw [memR, if_neg hc1, if_neg hc2, if_neg hc3, if_neg hc4, if_pos hc5]; done) | (rw [memR, if_neg hc1, if_neg hc2, if_neg hc3, if_neg hc4, if_pos hc5]; rfl) | (rw [memR, if_neg hc1, if_neg hc2, if_neg hc3, if_neg hc4, if_neg hc5, show m0 s (p + 2) + 1 = m0 s p + k by omega]; done) | (rw [memR, if_neg hc1, if_neg hc2, if_neg hc3, if_neg hc4, if_neg hc5, show m0 s (p + 2) + 1 = m0 s p + k by omega]; rfl)
        refine q_i (d := vint .i64 (((p + 3) : Nat) : Int)) 7 (vint .i64 (((memR s p first).2.1 : Nat) : Int)) ?_ ?_
        ·refine imp_eq (congrArg (fun x => D.p (eI x)) (a₁ := (((p + 3) : Nat) : Int)) (a₂ := (((memR s p first).2.1 : Nat) : Int)) ?_)
         first | (rw [memR, if_pos hc1]; done) | (rw [memR, if_pos hc1]; rfl) | (rw [memR, if_neg hc1, if_pos hc2]; done) | (rw [memR, if_neg hc1, if_pos hc2]; rfl) | (rw [memR, if_neg hc1, if_neg hc2, if_pos hc3]; done) | (rw [memR, if_neg hc1, if_neg hc2, if_pos hc3]; rfl) | (rw [memR, if_neg hc1, if_neg hc2, if_neg hc3, if_pos hc4]; done) | (rw [memR, if_neg hc1, if_neg hc2, if_neg hc3, if_pos hc4]; rfl) | (rw [memR, if_neg hc1, if_neg hc2, if_neg hc3, if_neg hc4, if_pos hc5]; done) | (rw [memR, if_neg hc1, if_neg hc2, if_neg hc3, if_neg hc4, if_pos hc5]; rfl) | (rw [memR, if_neg hc1, if_neg hc2, if_neg hc3, if_neg hc4, if_neg hc5, show m0 s (p + 2) + 1 = m0 s p + k by omega]; done) | (rw [memR, if_neg hc1, if_neg hc2, if_neg hc3, if_neg hc4, if_neg hc5, show m0 s (p + 2) + 1 = m0 s p + k by omega]; rfl)
        refine q_i (d := vbool true) 8 (vbool ((memR s p first).2.2)) ?_ ?_
        ·refine imp_eq (congrArg (fun x => D.p (eB x)) (a₁ := true) (a₂ := ((memR s p first).2.2)) ?_)
         first | (rw [memR, if_pos hc1]; done) | (rw [memR, if_pos hc1]; rfl) | (rw [memR, if_neg hc1, if_pos hc2]; done) | (rw [memR, if_neg hc1, if_pos hc2]; rfl) | (rw [memR, if_neg hc1, if_neg hc2, if_pos hc3]; done) | (rw [memR, if_neg hc1, if_neg hc2, if_pos hc3]; rfl) | (rw [memR, if_neg hc1, if_neg hc2, if_neg hc3, if_pos hc4]; done) | (rw [memR, if_neg hc1, if_neg hc2, if_neg hc3, if_pos hc4]; rfl) | (rw [memR, if_neg hc1, if_neg hc2, if_neg hc3, if_neg hc4, if_pos hc5]; done) | (rw [memR, if_neg hc1, if_neg hc2, if_neg hc3, if_neg hc4, if_pos hc5]; rfl) | (rw [memR, if_neg hc1, if_neg hc2, if_neg hc3, if_neg hc4, if_neg hc5, show m0 s (p + 2) + 1 = m0 s p + k by omega]; done) | (rw [memR, if_neg hc1, if_neg hc2, if_neg hc3, if_neg hc4, if_neg hc5, show m0 s (p + 2) + 1 = m0 s p + k by omega]; rfl)
        exact q_z [.p ((eA eB 1 37) ((memR s p first).1)), vint .i64 (((memR s p first).2.1 : Nat) : Int), vbool ((memR s p first).2.2)] (fun _ _ h => h)
def orN (o m : Nat → Bool) (k : Nat) : Nat → Bool := fun i => if i < k then o i || m i else o i
theorem orN_0 (o m : Nat → Bool) : orN o m 0 = o := by funext i; simp [orN]
theorem orN_s (o m : Nat → Bool) (k : Nat) : upd (orN o m k) k (orN o m k k || m k) = orN o m (k + 1) := by
 funext i
 unfold upd orN
 by_cases h : i = k
 ·subst h
  rw [if_pos rfl, if_neg (Nat.lt_irrefl _), if_pos (Nat.lt_succ_self _)]
 ·rw [if_neg h]
  by_cases h1 : i < k
  ·rw [if_pos h1, if_pos (by omega)]
  ·rw [if_neg h1, if_neg (by omega)]
def memF (s : List UInt8) (f p : Nat) : (Nat → Bool) × Nat × Bool := memR s p ((p : Int) == (f : Int))
def setL : Nat → List UInt8 → Nat → Nat → (Nat → Bool) → (Nat → Bool) × Nat × Bool
 | 0, _, _, p, o => (o, p, false)
 | n + 1, s, f, p, o => if (p : Int) < (s.length : Int) ∧ ((s.getD p 0).toNat : Int) ≠ 93 then
   (if (memF s f p).2.2 = false then (o, p, false) else setL n s f (memF s f p).2.1 (orN o (memF s f p).1 37))
  else (o, p + 1, decide ((p : Int) < (s.length : Int)) && decide ((f : Int) < (p : Int)))
def setR (s : List UInt8) (p : Nat) : (Nat → Bool) × Nat × Bool :=
 if ((s.getD p 0).toNat : Int) ≠ 91 then (if m0 s p < 0 then (noSet, p, false) else (memS s p, p + 1, true)) else setL (s.length + 1) s (p + 1) (p + 1) noSet
theorem memR_le {s : List UInt8} {p : Nat} {first : Bool} (h : p < s.length) (hr : (memR s p first).2.2 = true) : p < (memR s p first).2.1 ∧ (memR s p first).2.1 ≤ s.length := by
 unfold memR at hr ⊢
 split
 ·rename_i h1; rw [if_pos h1] at hr; cases hr
 ·rename_i h1
  rw [if_neg h1] at hr
  split
  ·exact ⟨by simp, by simp only; omega⟩
  ·rename_i h2
   rw [if_neg h2] at hr
   split
   ·exact ⟨by simp, by simp only; omega⟩
   ·rename_i h3
    rw [if_neg h3] at hr
    split
    ·rename_i h4; rw [if_pos h4] at hr; cases hr
    ·rename_i h4
     rw [if_neg h4] at hr
     split
     ·rename_i h5; rw [if_pos h5] at hr; cases hr
     ·exact ⟨by simp only; omega, by simp only; omega⟩
section
variable {n f p : Nat} {s : List UInt8} {o : Nat → Bool}
theorem setL_1 (hn : 0 < n) (h : (p : Int) < (s.length : Int) ∧ ((s.getD p 0).toNat : Int) ≠ 93) (h1 : (memF s f p).2.2 = false) : setL n s f p o = (o, p, false) := by
 obtain ⟨n, rfl⟩ : ∃ j, n = j + 1 := ⟨n - 1, by omega⟩
 rw [setL, if_pos h, if_pos h1]
theorem setL_2 (hn : 0 < n) (h : (p : Int) < (s.length : Int) ∧ ((s.getD p 0).toNat : Int) ≠ 93) (h1 : ¬ (memF s f p).2.2 = false) : setL n s f p o = setL (n - 1) s f (memF s f p).2.1 (orN o (memF s f p).1 37) := by
 obtain ⟨n, rfl⟩ : ∃ j, n = j + 1 := ⟨n - 1, by omega⟩
 rw [setL, if_pos h, if_neg h1]; rfl
theorem setL_3 (hn : 0 < n) (h : ¬ ((p : Int) < (s.length : Int) ∧ ((s.getD p 0).toNat : Int) ≠ 93)) : setL n s f p o = (o, p + 1, decide ((p : Int) < (s.length : Int)) && decide ((f : Int) < (p : Int))) := by
 obtain ⟨n, rfl⟩ : ∃ j, n = j + 1 := ⟨n - 1, by omega⟩
 rw [setL, if_neg h]
end
theorem refSet_ok (s : List UInt8) (p : Nat) (hb0 : s.length < 4611686018427387904) (hp : p < s.length) : Pure Try.prog 46 [.s s, .v (.int .i64 (p : Int))] (.tup [.p ((eA eB 1 37) ((setR s p).1)), vint .i64 (((setR s p).2.1 : Nat) : Int), vbool ((setR s p).2.2)]) := by
 have b0 := (s.getD p 0).toNat_lt
 have q0 := sym_le ((s.getD p 0).toNat : Int)
 have q1 := sym_ge ((s.getD p 0).toNat : Int)
 have e0 : m0 s p = sym ((s.getD p 0).toNat : Int) := rfl
 refine pure_of (fn := Try.f46) Try.func46 rfl rfl fun F_ W0_ => ?_
 refine tr_seq (q_t [0, 1, 4] [vstr s, vint .i64 (p : Int), .ref 0 []] [.box (.p ((eA eB 1 37) (fun _ => false)))] (tr_then (tr_seq (q_t [0, 1, 4, 7] [vstr s, vint .i64 (p : Int), .ref 0 [], .ref 1 []] [.box (.p ((eA eB 1 37) (fun _ => false))), .box (.p ((eA eB 1 37) (fun _ => false)))] (tr_then (tr_seq (tr_seq (q_l [(0 : Int) ≤ (p : Int), (p : Int) < (s.length : Int)] [0, 1, 4, 7, 17] [vstr s, vint .i64 (p : Int), .ref 0 [], .ref 1 [], vbool (((s.getD p 0).toNat : Int) != 91)] (al (by omega) (al (by omega) (trivial))) (tr_then (q_c (((s.getD p 0).toNat : Int) != 91) (((s.getD p 0).toNat : Int) ≠ 91) (fun hc1 => ?_) (fun hc1 => ?_)))))))))))
 ·refine tr_seq (q_k [(0 : Int) ≤ (p : Int), (p : Int) < (s.length : Int), Pure Try.prog 43 [.v (.int .u8 ((s.getD p 0).toNat : Int))] (vint .i64 (sym ((s.getD p 0).toNat : Int))), (sym ((s.getD p 0).toNat : Int)) = (m0 s p)] [1, 4, 7, 8] [vint .i64 (p : Int), .ref 0 [], .ref 1 [], vint .i64 (m0 s p)] [(4, vint .i64 (m0 s p))] [(3, vint .i64 (sym ((s.getD p 0).toNat : Int)))] ?_ ?_)
  ·refine al (by omega) (al (by omega) (al ?_ (al (by omega) (trivial))))
   ·first | exact refSymbolB_ok _ | exact refSymbol_ok _ (by omega) (by omega)
  refine tr_then (tr_seq (tr_seq (q_m [1, 4, 7, 8, 23] [vint .i64 (p : Int), .ref 0 [], .ref 1 [], vint .i64 (m0 s p), vbool (decide ((m0 s p) < 0))] (tr_then (q_e ((m0 s p) < 0) (fun hc2 => ?_) (fun hc2 => ?_))))))
  ·refine tr_seq (q_m [4, 5, 6] [.ref 0 [], vint .i64 (p : Int), vbool false] (tr_then (tr_pre (E' := [(4, none, .ref 0 []), (5, none, vint .i64 (p : Int)), (6, none, vbool false)]) (H' := [.box (.p ((eA eB 1 37) (fun _ => false)))]) (fun _ _ h => q_w [0] [4, 5, 6] h) (tr_pre (fun _ _ => sl_obj_imp (d := .p ((eA eB 1 37) (fun _ => false))) 0 (.p ((eA eB 1 37) ((setR s p).1))) (by kernel_rfl) ?_) ?_))))
   ·refine impC_eq (congrArg (fun x => D.p ((eA eB 1 37) x)) (a₁ := (fun _ => false)) (a₂ := ((setR s p).1)) ?_)
    first | (rw [setR, if_pos hc1, if_pos hc2]; done) | (rw [setR, if_pos hc1, if_pos hc2]; rfl) | (rw [setR, if_pos hc1, if_neg hc2]; done) | (rw [setR, if_pos hc1, if_neg hc2]; rfl) | (rw [setR, if_neg hc1, ← hi0_0, setL_1 (by omega) hc3 hc4]; done) | (rw [setR, if_neg hc1, ← hi0_0, setL_3 (by omega) hc3]; done)
   refine q_i (d := vint .i64 (p : Int)) 5 (vint .i64 (((setR s p).2.1 : Nat) : Int)) ?_ ?_
   ·refine imp_eq (congrArg (fun x => D.p (eI x)) (a₁ := (p : Int)) (a₂ := (((setR s p).2.1 : Nat) : Int)) ?_)
    first | (rw [setR, if_pos hc1, if_pos hc2]; done) | (rw [setR, if_pos hc1, if_pos hc2]; rfl) | (rw [setR, if_pos hc1, if_neg hc2]; done) | (rw [setR, if_pos hc1, if_neg hc2]; rfl) | (rw [setR, if_neg hc1, ← hi0_0, setL_1 (by omega) hc3 hc4]; done) | (rw [setR, if_neg hc1, ← hi0_0, setL_3 (by omega) hc3]; done)
   refine q_i (d := vbool false) 6 (vbool ((setR s p).2.2)) ?_ ?_
   ·refine imp_eq (congrArg (fun x => D.p (eB x)) (a₁ := false) (a₂ := ((setR s p).2.2)) ?_)
    first | (rw [setR, if_pos hc1, if_pos hc2]; done) | (rw [setR, if_pos hc1, if_pos hc2]; rfl) | (rw [setR, if_pos hc1, if_neg hc2]; done) | (rw [setR, if_pos hc1, if_neg hc2]; rfl) | (rw [setR, if_neg hc1, ← hi0_0, setL_1 (by omega) hc3 hc4]; done) | (rw [setR, if_neg hc1, ← hi0_0, setL_3 (by omega) hc3]; done)
   exact q_z [.p ((eA eB 1 37) ((setR s p).1)), vint .i64 (((setR s p).2.1 : Nat) : Int), vbool ((setR s p).2.2)] (fun _ _ h => h)
  ·refine tr_skip (tr_then (tr_seq (q_s [(0 : Int) ≤ (m0 s p), (m0 s p) < (37 : Int), (m0 s p).toNat < 37] [1, 4, 7] [vint .i64 (p : Int), .ref 0 [], .ref 1 []] [.box (.p ((eA eB 1 37) (fun _ => false))), .box (.p (.vec 1 37 (upd (fun i => eB ((fun _ => false) i)) ((m0 s p).toNat) (.v (.bool true)))))] (al (by omega) (al (by omega) (al (by omega) (trivial)))) (nm_pre (fun _ _ => sl_obj (o := .box (.p (.vec 1 37 (upd (fun i => eB ((fun _ => false) i)) ((m0 s p).toNat) (.v (.bool true)))))) 1 (.box (.p ((eA eB 1 37) (upd (fun _ => false) ((m0 s p).toNat) true)))) (by kernel_rfl) (by exact congrArg (fun y => O.box (D.p y)) (vec_upd (e := eB) (f := (fun _ => false)) (k := ((m0 s p).toNat)) (x := true)))) (tr_then (tr_seq (q_r [(IntKind.wrap .i64 ((p : Int) + 1)) = (((p + 1) : Nat) : Int)] [4, 5, 6] [.ref 0 [], vint .i64 (((p + 1) : Nat) : Int), vbool true] [.box (.p ((eA eB 1 37) (upd (fun _ => false) ((m0 s p).toNat) true))), .box (.p ((eA eB 1 37) (upd (fun _ => false) ((m0 s p).toNat) true)))] [(2, vint .i64 (((p + 1) : Nat) : Int))] [] (al (wr64 (by omega) (by omega) (by omega)) (trivial)) (tr_then (tr_pre (E' := [(4, none, .ref 0 []), (5, none, vint .i64 (((p + 1) : Nat) : Int)), (6, none, vbool true)]) (H' := [.box (.p ((eA eB 1 37) (upd (fun _ => false) ((m0 s p).toNat) true)))]) (fun _ _ h => q_w [0] [4, 5, 6] h) (tr_pre (fun _ _ => sl_obj_imp (d := .p ((eA eB 1 37) (upd (fun _ => false) ((m0 s p).toNat) true))) 0 (.p ((eA eB 1 37) ((setR s p).1))) (by kernel_rfl) ?_) ?_))))))))))
   ·refine impC_eq (congrArg (fun x => D.p ((eA eB 1 37) x)) (a₁ := (upd (fun _ => false) ((m0 s p).toNat) true)) (a₂ := ((setR s p).1)) ?_)
    first | (rw [setR, if_pos hc1, if_pos hc2]; done) | (rw [setR, if_pos hc1, if_pos hc2]; rfl) | (rw [setR, if_pos hc1, if_neg hc2]; done) | (rw [setR, if_pos hc1, if_neg hc2]; rfl) | (rw [setR, if_neg hc1, ← hi0_0, setL_1 (by omega) hc3 hc4]; done) | (rw [setR, if_neg hc1, ← hi0_0, setL_3 (by omega) hc3]; done)
   refine q_i (d := vint .i64 (((p + 1) : Nat) : Int)) 5 (vint .i64 (((setR s p).2.1 : Nat) : Int)) ?_ ?_
   ·refine imp_eq (congrArg (fun x => D.p (eI x)) (a₁ := (((p + 1) : Nat) : Int)) (a₂ := (((setR s p).2.1 : Nat) : Int)) ?_)
    first | (rw [setR, if_pos hc1, if_pos hc2]; done) | (rw [setR, if_pos hc1, if_pos hc2]; rfl) | (rw [setR, if_pos hc1, if_neg hc2]; done) | (rw [setR, if_pos hc1, if_neg hc2]; rfl) | (rw [setR, if_neg hc1, ← hi0_0, setL_1 (by omega) hc3 hc4]; done) | (rw [setR, if_neg hc1, ← hi0_0, setL_3 (by omega) hc3]; done)
   refine q_i (d := vbool true) 6 (vbool ((setR s p).2.2)) ?_ ?_
   ·refine imp_eq (congrArg (fun x => D.p (eB x)) (a₁ := true) (a₂ := ((setR s p).2.2)) ?_)
    first | (rw [setR, if_pos hc1, if_pos hc2]; done) | (rw [setR, if_pos hc1, if_pos hc2]; rfl) | (rw [setR, if_pos hc1, if_neg hc2]; done) | (rw [setR, if_pos hc1, if_neg hc2]; rfl) | (rw [setR, if_neg hc1, ← hi0_0, setL_1 (by omega) hc3 hc4]; done) | (rw [setR, if_neg hc1, ← hi0_0, setL_3 (by omega) hc3]; done)
   exact q_z [.p ((eA eB 1 37) ((setR s p).1)), vint .i64 (((setR s p).2.1 : Nat) : Int), vbool ((setR s p).2.2)] (fun _ _ h => h)
 ·refine tr_skip (tr_then (tr_seq (q_k [(IntKind.wrap .i64 ((p : Int) + 1)) = (((p + 1) : Nat) : Int)] [0, 4, 7, 9] [vstr s, .ref 0 [], .ref 1 [], vint .i64 (((p + 1) : Nat) : Int)] [(1, vint .i64 (((p + 1) : Nat) : Int))] [] (al (wr64 (by omega) (by omega) (by omega)) (trivial)) (tr_then (tr_seq (q_m [0, 1, 4, 7, 9] [vstr s, vint .i64 (((p + 1) : Nat) : Int), .ref 0 [], .ref 1 [], vint .i64 (((p + 1) : Nat) : Int)] (tr_then (tr_seq (tr_block (tr_loop (α := Nat × Nat × (Nat → Bool)) (fun z : Nat × Nat × (Nat → Bool) => (fun (n : Nat) (p1 : Nat) (o : Nat → Bool) => [(0, none, vstr s), (1, none, vint .i64 (p1 : Int)), (4, none, .ref 0 []), (7, none, .ref 1 []), (9, none, vint .i64 (((p + 1) : Nat) : Int))]) z.1 z.2.1 z.2.2) (fun z : Nat × Nat × (Nat → Bool) => (fun (n : Nat) (p1 : Nat) (o : Nat → Bool) => [.box (.p ((eA eB 1 37) (fun _ => false))), .box (.p ((eA eB 1 37) o))]) z.1 z.2.1 z.2.2) (fun z : Nat × Nat × (Nat → Bool) => (fun (n : Nat) (p1 : Nat) (o : Nat → Bool) => (setL n s (p + 1) p1 o = setL (s.length + 1) s (p + 1) (p + 1) noSet) ∧ (s.length < n + p1) ∧ (p1 ≤ s.length)) z.1 z.2.1 z.2.2) (fun z : Nat × Nat × (Nat → Bool) => (fun (n : Nat) (p1 : Nat) (o : Nat → Bool) => s.length - p1) z.1 z.2.1 z.2.2) ((s.length + 1), (p + 1), (fun _ => false)) ?_ ?_ ?_))))))))))
  ·show (setL (s.length + 1) s (p + 1) (p + 1) (fun _ => false) = setL (s.length + 1) s (p + 1) (p + 1) noSet) ∧ (s.length < (s.length + 1) + (p + 1)) ∧ ((p + 1) ≤ s.length)
   refine ⟨?_, ?_, ?_⟩
   ·rfl
   ·omega
   ·omega
  ·intro A_ W_ hS
   exact q_w [0, 1] [0, 1, 4, 7, 9] hS
  ·intro z hz
   obtain ⟨n, p1, o⟩ := z
   have hz : (setL n s (p + 1) p1 o = setL (s.length + 1) s (p + 1) (p + 1) noSet) ∧ (s.length < n + p1) ∧ (p1 ≤ s.length) := hz
   obtain ⟨hi0_0, hi0_1, hi0_2⟩ := hz
   have hml : p1 < s.length → (memF s (p + 1) p1).2.2 = true → p1 < (memF s (p + 1) p1).2.1 ∧ (memF s (p + 1) p1).2.1 ≤ s.length := fun h h1 => memR_le (s := s) (p := p1) h h1
   have hmf : (memF s (p + 1) p1) = memR s p1 ((p1 : Int) == ((p + 1 : Nat) : Int)) := rfl
   refine tr_seq (tr_seq (q_s [(decide ((p1 : Int) < (s.length : Int))) = true → (decide ((p1 : Int) < (s.length : Int))) = true, (decide ((p1 : Int) < (s.length : Int))) = true → (decide ((p1 : Int) < (s.length : Int))) = true, (decide ((p1 : Int) < (s.length : Int))) = true → ((0 : Int) ≤ (p1 : Int)), (decide ((p1 : Int) < (s.length : Int))) = true → ((p1 : Int) < (s.length : Int)), (decide ((p1 : Int) < (s.length : Int))) = true → (decide ((p1 : Int) < (s.length : Int))) = true, (decide ((p1 : Int) < (s.length : Int))) = true → (decide ((p1 : Int) < (s.length : Int))) = true] [0, 1, 4, 7, 9, 43] [vstr s, vint .i64 (p1 : Int), .ref 0 [], .ref 1 [], vint .i64 (((p + 1) : Nat) : Int), vbool ((decide ((p1 : Int) < (s.length : Int))) && (((s.getD p1 0).toNat : Int) != 93))] [.box (.p ((eA eB 1 37) (fun _ => false))), .box (.p ((eA eB 1 37) o))] (al id (al id (al (by omega) (al (by intro hg; simp at hg; omega) (al id (al id (trivial))))))) (tr_then (q_c ((decide ((p1 : Int) < (s.length : Int))) && (((s.getD p1 0).toNat : Int) != 93)) (((p1 : Int) < (s.length : Int)) ∧ (((s.getD p1 0).toNat : Int) ≠ 93)) (fun hc3 => ?_) (fun hc3 => ?_)))))
   ·refine tr_skip (tr_then (tr_block (tr_seq (q_r [Pure Try.prog 54 [.s s, .v (.int .i64 (p1 : Int)), .v (.bool ((p1 : Int) == (((p + 1) : Nat) : Int)))] (.tup [.p ((eA eB 1 37) ((memR s p1 ((p1 : Int) == (((p + 1) : Nat) : Int))).1)), vint .i64 (((memR s p1 ((p1 : Int) == (((p + 1) : Nat) : Int))).2.1 : Nat) : Int), vbool ((memR s p1 ((p1 : Int) == (((p + 1) : Nat) : Int))).2.2)]), (.p ((eA eB 1 37) ((memR s p1 ((p1 : Int) == (((p + 1) : Nat) : Int))).1)) : D) = .p ((eA eB 1 37) ((memF s (p + 1) p1).1)), (((memR s p1 ((p1 : Int) == (((p + 1) : Nat) : Int))).2.1 : Nat) : Int) = (((memF s (p + 1) p1).2.1 : Nat) : Int), ((memR s p1 ((p1 : Int) == (((p + 1) : Nat) : Int))).2.2) = ((memF s (p + 1) p1).2.2)] [0, 1, 4, 7, 9, 10, 11, 12] [vstr s, vint .i64 (p1 : Int), .ref 0 [], .ref 1 [], vint .i64 (((p + 1) : Nat) : Int), .ref 2 [], vint .i64 (((memF s (p + 1) p1).2.1 : Nat) : Int), vbool ((memF s (p + 1) p1).2.2)] [.box (.p ((eA eB 1 37) (fun _ => false))), .box (.p ((eA eB 1 37) o)), .box (.p ((eA eB 1 37) ((memF s (p + 1) p1).1)))] [(7, .p ((eA eB 1 37) ((memF s (p + 1) p1).1))), (8, vint .i64 (((memF s (p + 1) p1).2.1 : Nat) : Int)), (9, vbool ((memF s (p + 1) p1).2.2))] [(5, .tup [.p ((eA eB 1 37) ((memR s p1 ((p1 : Int) == (((p + 1) : Nat) : Int))).1)), vint .i64 (((memR s p1 ((p1 : Int) == (((p + 1) : Nat) : Int))).2.1 : Nat) : Int), vbool ((memR s p1 ((p1 : Int) == (((p + 1) : Nat) : Int))).2.2)])] (al (member_ok _ _ _ (by omega) (by omega)) (al (by simp_all; done) (al (by simp_all; done) (al (by simp_all; done) (trivial))))) (tr_then (tr_seq (tr_seq (q_m [0, 1, 4, 7, 9, 10, 11, 55] [vstr s, vint .i64 (p1 : Int), .ref 0 [], .ref 1 [], vint .i64 (((p + 1) : Nat) : Int), .ref 2 [], vint .i64 (((memF s (p + 1) p1).2.1 : Nat) : Int), vbool (!((memF s (p + 1) p1).2.2))] (tr_then (q_c (!((memF s (p + 1) p1).2.2)) (((memF s (p + 1) p1).2.2) = false) (fun hc4 => ?_) (fun hc4 => ?_)))))))))))
    ·refine tr_seq (q_t [4, 5, 6] [.ref 0 [], vint .i64 (p1 : Int), vbool false] [.box (.p ((eA eB 1 37) o)), .box (.p ((eA eB 1 37) o)), .box (.p ((eA eB 1 37) ((memF s (p + 1) p1).1)))] (tr_then (tr_pre (E' := [(4, none, .ref 0 []), (5, none, vint .i64 (p1 : Int)), (6, none, vbool false)]) (H' := [.box (.p ((eA eB 1 37) o))]) (fun _ _ h => q_w [0] [4, 5, 6] h) (tr_pre (fun _ _ => sl_obj_imp (d := .p ((eA eB 1 37) o)) 0 (.p ((eA eB 1 37) ((setR s p).1))) (by kernel_rfl) ?_) ?_))))
     ·refine impC_eq (congrArg (fun x => D.p ((eA eB 1 37) x)) (a₁ := o) (a₂ := ((setR s p).1)) ?_)
      first | (rw [setR, if_pos hc1, if_pos hc2]; done) | (rw [setR, if_pos hc1, if_pos hc2]; rfl) | (rw [setR, if_pos hc1, if_neg hc2]; done) | (rw [setR, if_pos hc1, if_neg hc2]; rfl) | (rw [setR, if_neg hc1, ← hi0_0, setL_1 (by omega) hc3 hc4]; done) | (rw [setR, if_neg hc1, ← hi0_0, setL_3 (by omega) hc3]; done)
     refine q_i (d := vint .i64 (p1 : Int)) 5 (vint .i64 (((setR s p).2.1 : Nat) : Int)) ?_ ?_
     ·refine imp_eq (congrArg (fun x => D.p (eI x)) (a₁ := (p1 : Int)) (a₂ := (((setR s p).2.1 : Nat) : Int)) ?_)
      first | (rw [setR, if_pos hc1, if_pos hc2]; done) | (rw [setR, if_pos hc1, if_pos hc2]; rfl) | (rw [setR, if_pos hc1, if_neg hc2]; done) | (rw [setR, if_pos hc1, if_neg hc2]; rfl) | (rw [setR, if_neg hc1, ← hi0_0, setL_1 (by omega) hc3 hc4]; done) | (rw [setR, if_neg hc1, ← hi0_0, setL_3 (by omega) hc3]; done)
     refine q_i (d := vbool false) 6 (vbool ((setR s p).2.2)) ?_ ?_
     ·refine imp_eq (congrArg (fun x => D.p (eB x)) (a₁ := false) (a₂ := ((setR s p).2.2)) ?_)
      first | (rw [setR, if_pos hc1, if_pos hc2]; done) | (rw [setR, if_pos hc1, if_pos hc2]; rfl) | (rw [setR, if_pos hc1, if_neg hc2]; done) | (rw [setR, if_pos hc1, if_neg hc2]; rfl) | (rw [setR, if_neg hc1, ← hi0_0, setL_1 (by omega) hc3 hc4]; done) | (rw [setR, if_neg hc1, ← hi0_0, setL_3 (by omega) hc3]; done)
     exact q_z [.p ((eA eB 1 37) ((setR s p).1)), vint .i64 (((setR s p).2.1 : Nat) : Int), vbool ((setR s p).2.2)] (fun _ _ h => h)
    ·refine tr_skip (tr_then (tr_seq (tr_seq (q_m [0, 4, 7, 9, 10, 11, 13] [vstr s, .ref 0 [], .ref 1 [], vint .i64 (((p + 1) : Nat) : Int), .ref 2 [], vint .i64 (((memF s (p + 1) p1).2.1 : Nat) : Int), vint .i64 0] (tr_then (tr_block (tr_loop (α := Nat) (fun z : Nat => (fun (k : Nat) => [(0, none, vstr s), (4, none, .ref 0 []), (7, none, .ref 1 []), (9, none, vint .i64 (((p + 1) : Nat) : Int)), (10, none, .ref 2 []), (11, none, vint .i64 (((memF s (p + 1) p1).2.1 : Nat) : Int)), (13, none, vint .i64 (k : Int))]) z) (fun z : Nat => (fun (k : Nat) => [.box (.p ((eA eB 1 37) (fun _ => false))), .box (.p ((eA eB 1 37) (orN o (memF s (p + 1) p1).1 k))), .box (.p ((eA eB 1 37) ((memF s (p + 1) p1).1)))]) z) (fun z : Nat => (fun (k : Nat) => (k ≤ 37)) z) (fun z : Nat => (fun (k : Nat) => 37 - k) z) 0 ?_ ?_ ?_)))))))
     ·show (0 ≤ 37)
      ·omega
     ·intro A_ W_ hS
      replace hS := q_a (d := vint .i64 0) 13 (vint .i64 ((0 : Nat) : Int)) (eqD_int (by omega)) hS
      replace hS := sl_obj_imp (d := .p ((eA eB 1 37) o)) 1 (.p ((eA eB 1 37) (orN o (memF s (p + 1) p1).1 0))) (by kernel_rfl) (impC_eq (congrArg (fun x => D.p ((eA eB 1 37) x)) (a₁ := o) (a₂ := (orN o (memF s (p + 1) p1).1 0)) (by exact (orN_0 _ _).symm))) hS
      exact q_w [0, 1, 2] [0, 4, 7, 9, 10, 11, 13] hS
     ·intro z hz
      revert z; intro k hz
      have hz : (k ≤ 37) := hz
      have hi1_0 := hz
      refine tr_seq (tr_seq (q_t [0, 4, 7, 9, 10, 11, 13, 59] [vstr s, .ref 0 [], .ref 1 [], vint .i64 (((p + 1) : Nat) : Int), .ref 2 [], vint .i64 (((memF s (p + 1) p1).2.1 : Nat) : Int), vint .i64 (k : Int), vbool (decide ((k : Int) < 37))] [.box (.p ((eA eB 1 37) (fun _ => false))), .box (.p ((eA eB 1 37) (orN o (memF s (p + 1) p1).1 k))), .box (.p ((eA eB 1 37) ((memF s (p + 1) p1).1)))] (tr_then (q_e ((k : Int) < 37) (fun hc5 => ?_) (fun hc5 => ?_)))))
      ·refine tr_skip (tr_then (tr_seq (tr_block (q_s [(0 : Int) ≤ (k : Int), (k : Int) < (37 : Int), k < 37, (!((orN o (memF s (p + 1) p1).1 k) k)) = true → (!((orN o (memF s (p + 1) p1).1 k) k)) = true, (!((orN o (memF s (p + 1) p1).1 k) k)) = true → ((0 : Int) ≤ (k : Int)), (!((orN o (memF s (p + 1) p1).1 k) k)) = true → ((k : Int) < (37 : Int)), (!((orN o (memF s (p + 1) p1).1 k) k)) = true → (!((orN o (memF s (p + 1) p1).1 k) k)) = true, (!((orN o (memF s (p + 1) p1).1 k) k)) = true → (k < 37), (!((orN o (memF s (p + 1) p1).1 k) k)) = true → (!((orN o (memF s (p + 1) p1).1 k) k)) = true, (0 : Int) ≤ (k : Int), (k : Int) < (37 : Int), k < 37] [0, 4, 7, 9, 10, 11, 13] [vstr s, .ref 0 [], .ref 1 [], vint .i64 (((p + 1) : Nat) : Int), .ref 2 [], vint .i64 (((memF s (p + 1) p1).2.1 : Nat) : Int), vint .i64 (k : Int)] [.box (.p ((eA eB 1 37) (fun _ => false))), .box (.p (.vec 1 37 (upd (fun i => eB ((orN o (memF s (p + 1) p1).1 k) i)) k (.v (.bool (((orN o (memF s (p + 1) p1).1 k) k) || (((memF s (p + 1) p1).1) k))))))), .box (.p ((eA eB 1 37) ((memF s (p + 1) p1).1)))] (al (by omega) (al (by omega) (al (by omega) (al id (al (by omega) (al (by omega) (al id (al (by omega) (al id (al (by omega) (al (by omega) (al (by omega) (trivial))))))))))))) (nm_pre (fun _ _ => sl_obj (o := .box (.p (.vec 1 37 (upd (fun i => eB ((orN o (memF s (p + 1) p1).1 k) i)) k (.v (.bool (((orN o (memF s (p + 1) p1).1 k) k) || (((memF s (p + 1) p1).1) k)))))))) 1 (.box (.p ((eA eB 1 37) (upd (orN o (memF s (p + 1) p1).1 k) k (((orN o (memF s (p + 1) p1).1 k) k) || (((memF s (p + 1) p1).1) k)))))) (by kernel_rfl) (by exact congrArg (fun y => O.box (D.p y)) (vec_upd (e := eB) (f := (orN o (memF s (p + 1) p1).1 k)) (k := k) (x := (((orN o (memF s (p + 1) p1).1 k) k) || (((memF s (p + 1) p1).1) k)))))) (in_n (tr_then (q_k [(IntKind.wrap .i64 ((k : Int) + 1)) = (((k + 1) : Nat) : Int)] [0, 4, 7, 9, 10, 11, 13] [vstr s, .ref 0 [], .ref 1 [], vint .i64 (((p + 1) : Nat) : Int), .ref 2 [], vint .i64 (((memF s (p + 1) p1).2.1 : Nat) : Int), vint .i64 (((k + 1) : Nat) : Int)] [(1, vint .i64 (((k + 1) : Nat) : Int))] [] (al (wr64 (by omega) (by omega) (by omega)) (trivial)) (lp_end (k + 1) ?_ ?_ ?_)))))))))
       ·show ((k + 1) ≤ 37)
        ·omega
       ·show 37 - (k + 1) < 37 - k
        omega
       ·intro A_ W_ hS
        replace hS := sl_obj_imp (d := .p ((eA eB 1 37) (upd (orN o (memF s (p + 1) p1).1 k) k (((orN o (memF s (p + 1) p1).1 k) k) || (((memF s (p + 1) p1).1) k))))) 1 (.p ((eA eB 1 37) (orN o (memF s (p + 1) p1).1 (k + 1)))) (by kernel_rfl) (impC_eq (congrArg (fun x => D.p ((eA eB 1 37) x)) (a₁ := (upd (orN o (memF s (p + 1) p1).1 k) k (((orN o (memF s (p + 1) p1).1 k) k) || (((memF s (p + 1) p1).1) k)))) (a₂ := (orN o (memF s (p + 1) p1).1 (k + 1))) (by exact orN_s _ _ _))) hS
        exact q_w [0, 1, 2] [0, 4, 7, 9, 10, 11, 13] hS
      ·refine tr_exit (th_e (th_e (in_hit (tr_then (q_m [0, 1, 4, 7, 9] [vstr s, vint .i64 (((memF s (p + 1) p1).2.1 : Nat) : Int), .ref 0 [], .ref 1 [], vint .i64 (((p + 1) : Nat) : Int)] (in_n (lp_end ((n - 1), (memF s (p + 1) p1).2.1, (orN o (memF s (p + 1) p1).1 k)) ?_ ?_ ?_)))))))
       ·show (setL (n - 1) s (p + 1) ((memF s (p + 1) p1).2.1) (orN o (memF s (p + 1) p1).1 k) = setL (s.length + 1) s (p + 1) (p + 1) noSet) ∧ (s.length < (n - 1) + ((memF s (p + 1) p1).2.1)) ∧ (((memF s (p + 1) p1).2.1) ≤ s.length)
        refine ⟨?_, ?_, ?_⟩
        ·obtain rfl : k = 37 := (by omega); rw [← hi0_0, setL_2 (n := n) (by omega) hc3 hc4]
        ·grind
        ·(simp_all; done)
       ·show s.length - ((memF s (p + 1) p1).2.1) < s.length - p1
        have := hml (by omega) (eq_true_of_ne_false hc4); omega
       ·intro A_ W_ hS
        replace hS := q_a (d := vint .i64 (((memF s (p + 1) p1).2.1 : Nat) : Int)) 1 (vint .i64 ((((memF s (p + 1) p1).2.1) : Nat) : Int)) (eqD_int (by omega)) hS
        exact q_w [0, 1] [0, 1, 4, 7, 9] hS
   ·refine tr_exit (th_e (th_e (in_hit (tr_then (tr_seq (q_r [(IntKind.wrap .i64 ((p1 : Int) + 1)) = (((p1 + 1) : Nat) : Int), (decide ((p1 : Int) < (s.length : Int))) = true → (decide ((p1 : Int) < (s.length : Int))) = true, (decide ((p1 : Int) < (s.length : Int))) = true → (decide ((p1 : Int) < (s.length : Int))) = true, (decide ((p1 : Int) < (s.length : Int))) = true → (decide ((p1 : Int) < (s.length : Int))) = true] [4, 5, 6] [.ref 0 [], vint .i64 (((p1 + 1) : Nat) : Int), vbool ((decide ((p1 : Int) < (s.length : Int))) && (decide ((((p + 1) : Nat) : Int) < (p1 : Int))))] [.box (.p ((eA eB 1 37) o)), .box (.p ((eA eB 1 37) o))] [(2, vint .i64 (((p1 + 1) : Nat) : Int))] [] (al (wr64 (by omega) (by omega) (by omega)) (al id (al id (al id (trivial))))) (tr_then (tr_pre (E' := [(4, none, .ref 0 []), (5, none, vint .i64 (((p1 + 1) : Nat) : Int)), (6, none, vbool ((decide ((p1 : Int) < (s.length : Int))) && (decide ((((p + 1) : Nat) : Int) < (p1 : Int)))))]) (H' := [.box (.p ((eA eB 1 37) o))]) (fun _ _ h => q_w [0] [4, 5, 6] h) (tr_pre (fun _ _ => sl_obj_imp (d := .p ((eA eB 1 37) o)) 0 (.p ((eA eB 1 37) ((setR s p).1))) (by kernel_rfl) ?_) ?_)))))))))
    ·refine impC_eq (congrArg (fun x => D.p ((eA eB 1 37) x)) (a₁ := o) (a₂ := ((setR s p).1)) ?_)
     first | (rw [setR, if_pos hc1, if_pos hc2]; done) | (rw [setR, if_pos hc1, if_pos hc2]; rfl) | (rw [setR, if_pos hc1, if_neg hc2]; done) | (rw [setR, if_pos hc1, if_neg hc2]; rfl) | (rw [setR, if_neg hc1, ← hi0_0, setL_1 (by omega) hc3 hc4]; done) | (rw [setR, if_neg hc1, ← hi0_0, setL_3 (by omega) hc3]; done)
    refine q_i (d := vint .i64 (((p1 + 1) : Nat) : Int)) 5 (vint .i64 (((setR s p).2.1 : Nat) : Int)) ?_ ?_
    ·refine imp_eq (congrArg (fun x => D.p (eI x)) (a₁ := (((p1 + 1) : Nat) : Int)) (a₂ := (((setR s p).2.1 : Nat) : Int)) ?_)
     first | (rw [setR, if_pos hc1, if_pos hc2]; done) | (rw [setR, if_pos hc1, if_pos hc2]; rfl) | (rw [setR, if_pos hc1, if_neg hc2]; done) | (rw [setR, if_pos hc1, if_neg hc2]; rfl) | (rw [setR, if_neg hc1, ← hi0_0, setL_1 (by omega) hc3 hc4]; done) | (rw [setR, if_neg hc1, ← hi0_0, setL_3 (by omega) hc3]; done)
    refine q_i (d := vbool ((decide ((p1 : Int) < (s.length : Int))) && (decide ((((p + 1) : Nat) : Int) < (p1 : Int))))) 6 (vbool ((setR s p).2.2)) ?_ ?_
    ·refine imp_eq (congrArg (fun x => D.p (eB x)) (a₁ := ((decide ((p1 : Int) < (s.length : Int))) && (decide ((((p + 1) : Nat) : Int) < (p1 : Int))))) (a₂ := ((setR s p).2.2)) ?_)
     first | (rw [setR, if_pos hc1, if_pos hc2]; done) | (rw [setR, if_pos hc1, if_pos hc2]; rfl) | (rw [setR, if_pos hc1, if_neg hc2]; done) | (rw [setR, if_pos hc1, if_neg hc2]; rfl) | (rw [setR, if_neg hc1, ← hi0_0, setL_1 (by omega) hc3 hc4]; done) | (rw [setR, if_neg hc1, ← hi0_0, setL_3 (by omega) hc3]; done)
    exact q_z [.p ((eA eB 1 37) ((setR s p).1)), vint .i64 (((setR s p).2.1 : Nat) : Int), vbool ((setR s p).2.2)] (fun _ _ h => h)
end Go.Proofs.Ytjnjmnfacaakfaa
namespace Go.Proofs.Ytjnjmnfacaakfaa
open Go.Eng
theorem memF_le {s : List UInt8} {f p : Nat} (h : p < s.length) (hr : (memF s f p).2.2 = true) : p < (memF s f p).2.1 ∧ (memF s f p).2.1 ≤ s.length := memR_le h hr
theorem setL_le {s : List UInt8} {f : Nat} : ∀ {n p : Nat} {o : Nat → Bool}, p ≤ s.length → (setL n s f p o).2.2 = true → p < (setL n s f p o).2.1 ∧ (setL n s f p o).2.1 ≤ s.length
 | 0, _, _, _, h => by cases h
 | n + 1, p, o, hp, h => by
  unfold setL at h ⊢
  by_cases h1 : (p : Int) < (s.length : Int) ∧ ((s.getD p 0).toNat : Int) ≠ 93
  ·rw [if_pos h1] at h ⊢
   by_cases h2 : (memF s f p).2.2 = false
   ·rw [if_pos h2] at h; cases h
   ·rw [if_neg h2] at h ⊢
    have := memF_le (s := s) (f := f) (p := p) (by omega) (eq_true_of_ne_false h2)
    have ih := setL_le this.2 h
    exact ⟨by omega, ih.2⟩
  ·rw [if_neg h1] at h ⊢
   simp only [Bool.and_eq_true, decide_eq_true_eq] at h
   exact ⟨by simp, by simp only; omega⟩
theorem setR_le {s : List UInt8} {p : Nat} (hp : p < s.length) (h : (setR s p).2.2 = true) : p < (setR s p).2.1 ∧ (setR s p).2.1 ≤ s.length := by
 unfold setR at h ⊢
 split
 ·rename_i h1
  rw [if_pos h1] at h
  split
  ·rename_i h2; rw [if_pos h2] at h; cases h
  ·exact ⟨by simp, by simp only; omega⟩
 ·rename_i h1
  rw [if_neg h1] at h
  have := setL_le (by omega) h
  exact ⟨by omega, this.2⟩
def HasM (s : List UInt8) (q : Nat) : Prop := (q : Int) < (s.length : Int) ∧ ((((s.getD q 0).toNat : Int) = 63 ∨ ((s.getD q 0).toNat : Int) = 43) ∨ ((s.getD q 0).toNat : Int) = 42)
instance (s : List UInt8) (q : Nat) : Decidable (HasM s q) := inferInstanceAs (Decidable (_ ∧ _))
def moR (s : List UInt8) (q : Nat) : Int := if HasM s q then ((s.getD q 0).toNat : Int) else 0
def nxR (s : List UInt8) (q : Nat) : Nat := if HasM s q then q + 1 else q
def moT (m : Int) : Int := if m = 43 then 42 else m
def addR (cur : List Piece) (x : Nat → Bool) (m : Int) : List Piece := if m = 43 then cur ++ [({ Set := x } : Piece)] else cur
def brR : Nat → List UInt8 → Nat → List Piece → List (List Piece) → Option (List (List Piece))
 | 0, _, _, _, _ => none
 | n + 1, s, p, cur, out => if (p : Int) < (s.length : Int) then
   (if ((s.getD p 0).toNat : Int) = 124 then (if (cur.length : Int) = 0 then none else brR n s (p + 1) [] (out ++ [cur]))
    else if (setR s p).2.2 = false then none
    else brR n s (nxR s (setR s p).2.1) (addR cur (setR s p).1 (moR s (setR s p).2.1) ++ [({ Set := (setR s p).1, More := moT (moR s (setR s p).2.1) } : Piece)]) out)
  else if (cur.length : Int) = 0 then none else some (out ++ [cur])
def branchesR (s : List UInt8) : Option (List (List Piece)) := brR (s.length + 1) s 0 [] []
def brOf (x : Option (List (List Piece))) : List (List Piece) := match x with
 | some y => y
 | none => []
theorem nxR_le {s : List UInt8} {q : Nat} (h : q ≤ s.length) : q ≤ nxR s q ∧ nxR s q ≤ s.length := by
 unfold nxR
 split
 ·rename_i h1; have := h1.1; omega
 ·omega
theorem addR_len {cur : List Piece} {x : Nat → Bool} {m : Int} : (addR cur x m).length ≤ cur.length + 1 := by
 unfold addR
 split <;> simp
section
variable {n p : Nat} {s : List UInt8} {cur : List Piece} {out : List (List Piece)}
theorem brR_1 (hn : 0 < n) (h : (p : Int) < (s.length : Int)) (h1 : ((s.getD p 0).toNat : Int) = 124) (h2 : (cur.length : Int) = 0) : brR n s p cur out = none := by
 obtain ⟨n, rfl⟩ : ∃ j, n = j + 1 := ⟨n - 1, by omega⟩
 rw [brR, if_pos h, if_pos h1, if_pos h2]
theorem brR_2 (hn : 0 < n) (h : (p : Int) < (s.length : Int)) (h1 : ((s.getD p 0).toNat : Int) = 124) (h2 : ¬ (cur.length : Int) = 0) : brR n s p cur out = brR (n - 1) s (p + 1) [] (out ++ [cur]) := by
 obtain ⟨n, rfl⟩ : ∃ j, n = j + 1 := ⟨n - 1, by omega⟩
 rw [brR, if_pos h, if_pos h1, if_neg h2]; rfl
theorem brR_3 (hn : 0 < n) (h : (p : Int) < (s.length : Int)) (h1 : ¬ ((s.getD p 0).toNat : Int) = 124) (h2 : (setR s p).2.2 = false) : brR n s p cur out = none := by
 obtain ⟨n, rfl⟩ : ∃ j, n = j + 1 := ⟨n - 1, by omega⟩
 rw [brR, if_pos h, if_neg h1, if_pos h2]
theorem brR_4 (hn : 0 < n) (h : (p : Int) < (s.length : Int)) (h1 : ¬ ((s.getD p 0).toNat : Int) = 124) (h2 : ¬ (setR s p).2.2 = false) : brR n s p cur out = brR (n - 1) s (nxR s (setR s p).2.1) (addR cur (setR s p).1 (moR s (setR s p).2.1) ++ [({ Set := (setR s p).1, More := moT (moR s (setR s p).2.1) } : Piece)]) out := by
 obtain ⟨n, rfl⟩ : ∃ j, n = j + 1 := ⟨n - 1, by omega⟩
 rw [brR, if_pos h, if_neg h1, if_neg h2]; rfl
theorem brR_5 (hn : 0 < n) (h : ¬ (p : Int) < (s.length : Int)) (h2 : (cur.length : Int) = 0) : brR n s p cur out = none := by
 obtain ⟨n, rfl⟩ : ∃ j, n = j + 1 := ⟨n - 1, by omega⟩
 rw [brR, if_neg h, if_pos h2]
theorem brR_6 (hn : 0 < n) (h : ¬ (p : Int) < (s.length : Int)) (h2 : ¬ (cur.length : Int) = 0) : brR n s p cur out = some (out ++ [cur]) := by
 obtain ⟨n, rfl⟩ : ∃ j, n = j + 1 := ⟨n - 1, by omega⟩
 rw [brR, if_neg h, if_neg h2]
end
theorem refBranches_ok (s : List UInt8) (hb0 : s.length < 1000) : Pure Try.prog 27 [.s s] (.tup [.p ((eL (eL ePiece 38 dPiece) 1 []) (brOf (branchesR s))), vbool ((branchesR s).isSome)]) := by
 refine pure_of (fn := Try.f27) Try.func27 rfl rfl fun F_ W0_ => ?_
 refine tr_seq (q_t [0] [vstr s] [] (tr_then (tr_seq (q_m [0, 4] [vstr s, .p (.v (.slice none 0 0))] (tr_then (tr_seq (q_m [0, 4, 5] [vstr s, .p (.v (.slice none 0 0)), .p (.v (.slice none 0 0))] (tr_then (tr_seq (q_m [0, 4, 5, 6] [vstr s, .p (.v (.slice none 0 0)), .p (.v (.slice none 0 0)), vint .i64 0] (tr_then (tr_seq (tr_block (tr_loop (α := Nat × Nat × (List Piece) × (List (List Piece))) (fun z : Nat × Nat × (List Piece) × (List (List Piece)) => (fun (n : Nat) (p : Nat) (cur : List Piece) (out : List (List Piece)) => [(0, none, vstr s), (4, none, .own 0), (5, none, .own 1), (6, none, vint .i64 (p : Int))]) z.1 z.2.1 z.2.2.1 z.2.2.2) (fun z : Nat × Nat × (List Piece) × (List (List Piece)) => (fun (n : Nat) (p : Nat) (cur : List Piece) (out : List (List Piece)) => [oL 54 (eL ePiece 38 dPiece) 1 [] out, oL 95 ePiece 38 dPiece cur]) z.1 z.2.1 z.2.2.1 z.2.2.2) (fun z : Nat × Nat × (List Piece) × (List (List Piece)) => (fun (n : Nat) (p : Nat) (cur : List Piece) (out : List (List Piece)) => (brR n s p cur out = branchesR s) ∧ (s.length < n + p) ∧ (p ≤ s.length) ∧ (cur.length ≤ 2 * p) ∧ (out.length ≤ p)) z.1 z.2.1 z.2.2.1 z.2.2.2) (fun z : Nat × Nat × (List Piece) × (List (List Piece)) => (fun (n : Nat) (p : Nat) (cur : List Piece) (out : List (List Piece)) => s.length - p) z.1 z.2.1 z.2.2.1 z.2.2.2) ((s.length + 1), 0, ([] : List Piece), ([] : List (List Piece))) ?_ ?_ ?_))))))))))))))
 ·show (brR (s.length + 1) s 0 ([] : List Piece) ([] : List (List Piece)) = branchesR s) ∧ (s.length < (s.length + 1) + 0) ∧ (0 ≤ s.length) ∧ (([] : List Piece).length ≤ 2 * 0) ∧ (([] : List (List Piece)).length ≤ 0)
  refine ⟨?_, ?_, ?_, ?_, ?_⟩
  ·rfl
  ·omega
  ·omega
  ·(simp; done)
  ·(simp; done)
 ·intro A_ W_ hS
  replace hS := sl_nil 4 54 1 (fun i => .p ((eL ePiece 38 dPiece) (([] : List (List Piece)).getD i []))) (by kernel_rfl) hS
  replace hS := sl_nil 5 95 38 (fun i => .p (ePiece (([] : List Piece).getD i dPiece))) (by kernel_rfl) hS
  replace hS := q_a (d := vint .i64 0) 6 (vint .i64 ((0 : Nat) : Int)) (eqD_int (by omega)) hS
  exact q_v [∀ i, i < ([] : List (List Piece)).length → D.p ((eL ePiece 38 dPiece) (([] : List (List Piece)).getD i [])) = .p ((eL ePiece 38 dPiece) (([] : List (List Piece)).getD i [])), ∀ i, i < ([] : List Piece).length → D.p (ePiece (([] : List Piece).getD i dPiece)) = .p (ePiece (([] : List Piece).getD i dPiece))] [0, 1] [0, 4, 5, 6] (al (fun _ _ => rfl) (al (fun _ _ => rfl) trivial)) hS
 ·intro z hz
  obtain ⟨n, p, cur, out⟩ := z
  have hz : (brR n s p cur out = branchesR s) ∧ (s.length < n + p) ∧ (p ≤ s.length) ∧ (cur.length ≤ 2 * p) ∧ (out.length ≤ p) := hz
  obtain ⟨hi0_0, hi0_1, hi0_2, hi0_3, hi0_4⟩ := hz
  have hsl := fun (h : p < s.length) (h1 : ¬ (setR s p).2.2 = false) => setR_le (s := s) (p := p) h (eq_true_of_ne_false h1)
  have hnx := nxR_le (s := s) (q := (setR s p).2.1)
  have hal := addR_len (cur := cur) (x := (setR s p).1) (m := moR s (setR s p).2.1)
  refine tr_seq (tr_seq (q_t [0, 4, 5, 6, 14] [vstr s, .own 0, .own 1, vint .i64 (p : Int), vbool (decide ((p : Int) < (s.length : Int)))] [oL 54 (eL ePiece 38 dPiece) 1 [] out, oL 95 ePiece 38 dPiece cur] (tr_then (q_e ((p : Int) < (s.length : Int)) (fun hc1 => ?_) (fun hc1 => ?_)))))
  ·refine tr_skip (tr_then (tr_block (tr_seq (tr_seq (q_l [(0 : Int) ≤ (p : Int), (p : Int) < (s.length : Int)] [0, 4, 5, 6, 18] [vstr s, .own 0, .own 1, vint .i64 (p : Int), vbool (((s.getD p 0).toNat : Int) == 124)] (al (by omega) (al (by omega) (trivial))) (tr_then (q_c (((s.getD p 0).toNat : Int) == 124) (((s.getD p 0).toNat : Int) = 124) (fun hc2 => ?_) (fun hc2 => ?_))))))))
   ·refine tr_seq (tr_seq (q_m [0, 4, 5, 6, 21] [vstr s, .own 0, .own 1, vint .i64 (p : Int), vbool ((cur.length : Int) == 0)] (tr_then (q_c ((cur.length : Int) == 0) ((cur.length : Int) = 0) (fun hc3 => ?_) (fun hc3 => ?_)))))
    ·refine tr_seq (q_m [2, 3] [.p (.v (.slice none 0 0)), vbool false] (tr_then (tr_pre (E' := [(2, none, .p (.v (.slice none 0 0))), (3, none, vbool false)]) (H' := []) (fun _ _ h => q_w [] [2, 3] h) (q_i (d := .p (.v (.slice none 0 0))) 2 (.p ((eL (eL ePiece 38 dPiece) 1 []) (brOf (branchesR s)))) ?_ ?_))))
     ·refine imp_nil (brOf (branchesR s)) ?_
      rw [← hi0_0]; first | (rw [brR_1 (by omega) hc1 hc2 hc3]; rfl) | (rw [brR_3 (by omega) hc1 hc2 hc4]; rfl) | (rw [brR_5 (by omega) hc1 hc7]; rfl) | (rw [brR_6 (by omega) hc1 hc7]; rfl)
     refine q_i (d := vbool false) 3 (vbool ((branchesR s).isSome)) ?_ ?_
     ·refine imp_eq (congrArg (fun x => D.p (eB x)) (a₁ := false) (a₂ := ((branchesR s).isSome)) ?_)
      rw [← hi0_0]; first | (rw [brR_1 (by omega) hc1 hc2 hc3]; rfl) | (rw [brR_3 (by omega) hc1 hc2 hc4]; rfl) | (rw [brR_5 (by omega) hc1 hc7]; rfl) | (rw [brR_6 (by omega) hc1 hc7]; rfl)
     exact q_z [.p ((eL (eL ePiece 38 dPiece) 1 []) (brOf (branchesR s))), vbool ((branchesR s).isSome)] (fun _ _ h => h)
    ·refine tr_skip (tr_then (tr_seq (tr_pre (E' := [(0, none, vstr s), (4, none, .own 0), (5, none, .p ((eL ePiece 38 dPiece) cur)), (6, none, vint .i64 (p : Int)), (21, none, vbool ((cur.length : Int) == 0))]) (H' := [oL 54 (eL ePiece 38 dPiece) 1 [] out, .dead]) (fun _ _ => sl_freeze (vc := [∀ j, j < cur.length → D.p (ePiece (cur.getD j dPiece)) = .p ((fun j => ePiece (cur.getD j dPiece)) j), ∀ i, i < out.length → D.p ((eL ePiece 38 dPiece) (out.getD i [])) = .p ((eL ePiece 38 dPiece) (out.getD i []))]) 1 (fun j => ePiece (cur.getD j dPiece)) (by kernel_rfl) (al (fun _ _ => rfl) (al (fun _ _ => rfl) trivial))) (q_r [∀ j, j < 1 → ([(eL ePiece 38 dPiece) cur] : List PV).getD j default = (fun i => (eL ePiece 38 dPiece) (([cur]).getD i [])) j, (out.length + (([cur]).length)) * 24 ≤ 140737488355328] [0, 4, 6] [vstr s, .own 2, vint .i64 (p : Int)] [.dead, .dead, .arr 54 1 (out.length + ([cur]).length) (appF (fun i => .p ((eL ePiece 38 dPiece) (out.getD i []))) out.length (fun j => .p ((eL ePiece 38 dPiece) (([cur]).getD j []))))] [] [(2, .p ((eL (eL ePiece 38 dPiece) 1 []) ([cur])))] (al (lit_pv (e := (eL ePiece 38 dPiece)) (d := []) (l := [cur])) (al (by simp_all; omega) (trivial))) (nm_pre (E' := [(0, none, vstr s), (4, none, .own 2), (6, none, vint .i64 (p : Int))]) (H' := [.dead, .dead, oL 54 (eL ePiece 38 dPiece) 1 [] (out ++ ([cur]))]) (fun _ _ => sl_arr (n := (out.length + ([cur]).length)) (n' := (out ++ ([cur])).length) (f := appF (fun i => .p ((eL ePiece 38 dPiece) (out.getD i []))) out.length (fun j => .p ((eL ePiece 38 dPiece) (([cur]).getD j [])))) 2 (fun i => .p ((eL ePiece 38 dPiece) ((out ++ ([cur])).getD i []))) (by kernel_rfl) (by simp) (by first | exact appN | exact nilN | exact app0 | exact nilV _)) (tr_then (tr_seq (q_m [0, 4, 5, 6] [vstr s, .own 2, .p (.v (.slice none 0 0)), vint .i64 (p : Int)] (tr_then (tr_seq (q_k [(IntKind.wrap .i64 ((p : Int) + 1)) = (((p + 1) : Nat) : Int)] [0, 4, 5, 6] [vstr s, .own 2, .p (.v (.slice none 0 0)), vint .i64 (((p + 1) : Nat) : Int)] [(1, vint .i64 (((p + 1) : Nat) : Int))] [] (al (wr64 (by omega) (by omega) (by omega)) (trivial)) (tr_then (tr_exit (th_e (in_hit (lp_end ((n - 1), (p + 1), ([] : List Piece), (out ++ ([cur]))) ?_ ?_ ?_))))))))))))))))
     ·show (brR (n - 1) s (p + 1) ([] : List Piece) (out ++ ([cur])) = branchesR s) ∧ (s.length < (n - 1) + (p + 1)) ∧ ((p + 1) ≤ s.length) ∧ (([] : List Piece).length ≤ 2 * (p + 1)) ∧ ((out ++ ([cur])).length ≤ (p + 1))
      refine ⟨?_, ?_, ?_, ?_, ?_⟩
      ·rw [← hi0_0]; first | (rw [brR_2 (n := n) (by omega) hc1 hc2 hc3]; done) | (rw [brR_4 (n := n) (by omega) hc1 hc2 hc4]; done)
      ·omega
      ·omega
      ·(simp; done)
      ·(simp_all; done)
     ·show s.length - (p + 1) < s.length - p
      first | omega | (have h1 := hsl (by omega) hc4; have h2 := hnx h1.2; omega)
     ·intro A_ W_ hS
      replace hS := sl_nil 5 95 38 (fun i => .p (ePiece (([] : List Piece).getD i dPiece))) (by kernel_rfl) hS
      exact q_v [∀ i, i < (out ++ ([cur])).length → D.p ((eL ePiece 38 dPiece) ((out ++ ([cur])).getD i [])) = .p ((eL ePiece 38 dPiece) ((out ++ ([cur])).getD i [])), ∀ i, i < ([] : List Piece).length → D.p (ePiece (([] : List Piece).getD i dPiece)) = .p (ePiece (([] : List Piece).getD i dPiece))] [2, 3] [0, 4, 5, 6] (al (fun _ _ => rfl) (al (fun _ _ => rfl) trivial)) hS
   ·refine tr_skip (tr_then (tr_seq (q_r [Pure Try.prog 46 [.s s, .v (.int .i64 (p : Int))] (.tup [.p ((eA eB 1 37) ((setR s p).1)), vint .i64 (((setR s p).2.1 : Nat) : Int), vbool ((setR s p).2.2)])] [0, 4, 5, 7, 8, 9] [vstr s, .own 0, .own 1, .ref 2 [], vint .i64 (((setR s p).2.1 : Nat) : Int), vbool ((setR s p).2.2)] [oL 54 (eL ePiece 38 dPiece) 1 [] out, oL 95 ePiece 38 dPiece cur, .box (.p ((eA eB 1 37) ((setR s p).1)))] [] [(2, .tup [.p ((eA eB 1 37) ((setR s p).1)), vint .i64 (((setR s p).2.1 : Nat) : Int), vbool ((setR s p).2.2)])] (al (refSet_ok _ _ (by omega) (by omega)) (trivial)) (tr_then (tr_seq (tr_seq (q_m [0, 4, 5, 7, 8, 36] [vstr s, .own 0, .own 1, .ref 2 [], vint .i64 (((setR s p).2.1 : Nat) : Int), vbool (!((setR s p).2.2))] (tr_then (q_c (!((setR s p).2.2)) (((setR s p).2.2) = false) (fun hc4 => ?_) (fun hc4 => ?_))))))))))
    ·refine tr_seq (q_m [2, 3] [.p (.v (.slice none 0 0)), vbool false] (tr_then (tr_pre (E' := [(2, none, .p (.v (.slice none 0 0))), (3, none, vbool false)]) (H' := []) (fun _ _ h => q_w [] [2, 3] h) (q_i (d := .p (.v (.slice none 0 0))) 2 (.p ((eL (eL ePiece 38 dPiece) 1 []) (brOf (branchesR s)))) ?_ ?_))))
     ·refine imp_nil (brOf (branchesR s)) ?_
      rw [← hi0_0]; first | (rw [brR_1 (by omega) hc1 hc2 hc3]; rfl) | (rw [brR_3 (by omega) hc1 hc2 hc4]; rfl) | (rw [brR_5 (by omega) hc1 hc7]; rfl) | (rw [brR_6 (by omega) hc1 hc7]; rfl)
     refine q_i (d := vbool false) 3 (vbool ((branchesR s).isSome)) ?_ ?_
     ·refine imp_eq (congrArg (fun x => D.p (eB x)) (a₁ := false) (a₂ := ((branchesR s).isSome)) ?_)
      rw [← hi0_0]; first | (rw [brR_1 (by omega) hc1 hc2 hc3]; rfl) | (rw [brR_3 (by omega) hc1 hc2 hc4]; rfl) | (rw [brR_5 (by omega) hc1 hc7]; rfl) | (rw [brR_6 (by omega) hc1 hc7]; rfl)
     exact q_z [.p ((eL (eL ePiece 38 dPiece) 1 []) (brOf (branchesR s))), vbool ((branchesR s).isSome)] (fun _ _ h => h)
    ·refine tr_skip (tr_then (tr_seq (q_m [0, 4, 5, 6, 7] [vstr s, .own 0, .own 1, vint .i64 (((setR s p).2.1 : Nat) : Int), .ref 2 []] (tr_then (tr_seq (q_m [0, 4, 5, 6, 7, 10] [vstr s, .own 0, .own 1, vint .i64 (((setR s p).2.1 : Nat) : Int), .ref 2 [], vint .u8 0] (tr_then (tr_join (α := Unit) (fun z : Unit => [(0, none, vstr s), (4, none, .own 0), (5, none, .own 1), (6, none, vint .i64 (((nxR s (setR s p).2.1) : Nat) : Int)), (7, none, .ref 2 []), (10, none, vint .u8 (moR s (setR s p).2.1))]) (fun z : Unit => [oL 54 (eL ePiece 38 dPiece) 1 [] out, oL 95 ePiece 38 dPiece cur, .box (.p ((eA eB 1 37) ((setR s p).1)))]) (fun z : Unit => True) ?_ ?_))))))))
     ·intro z hz
      refine tr_join (α := Unit) (fun z : Unit => [(0, none, vstr s), (4, none, .own 0), (5, none, .own 1), (6, none, vint .i64 (((nxR s (setR s p).2.1) : Nat) : Int)), (7, none, .ref 2 []), (10, none, vint .u8 (moT (moR s (setR s p).2.1)))]) (fun z : Unit => [oL 54 (eL ePiece 38 dPiece) 1 [] out, oL 95 ePiece 38 dPiece (addR cur (setR s p).1 (moR s (setR s p).2.1)), .box (.p ((eA eB 1 37) ((setR s p).1)))]) (fun z : Unit => True) ?_ ?_
      ·intro z hz
       refine q_r [∀ j, j < 1 → ([.agg [(eA eB 1 37) ((setR s p).1), .v (.int .u8 (moT (moR s (setR s p).2.1)))]] : List PV).getD j default = (fun i => ePiece (([({ Set := (setR s p).1, More := (moT (moR s (setR s p).2.1)) } : Piece)]).getD i dPiece)) j, (((addR cur (setR s p).1 (moR s (setR s p).2.1)).length) + (([({ Set := (setR s p).1, More := (moT (moR s (setR s p).2.1)) } : Piece)]).length)) * 38 ≤ 140737488355328] [0, 4, 5, 6] [vstr s, .own 0, .own 3, vint .i64 (((nxR s (setR s p).2.1) : Nat) : Int)] [oL 54 (eL ePiece 38 dPiece) 1 [] out, .dead, .box (.p ((eA eB 1 37) ((setR s p).1))), .arr 95 38 ((addR cur (setR s p).1 (moR s (setR s p).2.1)).length + ([({ Set := (setR s p).1, More := (moT (moR s (setR s p).2.1)) } : Piece)]).length) (appF (fun i => .p (ePiece ((addR cur (setR s p).1 (moR s (setR s p).2.1)).getD i dPiece))) ((addR cur (setR s p).1 (moR s (setR s p).2.1)).length) (fun j => .p (ePiece (([({ Set := (setR s p).1, More := (moT (moR s (setR s p).2.1)) } : Piece)]).getD j dPiece))))] [] [(4, .p ((eL ePiece 38 dPiece) ([({ Set := (setR s p).1, More := (moT (moR s (setR s p).2.1)) } : Piece)])))] (al (lit_pv (e := ePiece) (d := dPiece) (l := [({ Set := (setR s p).1, More := (moT (moR s (setR s p).2.1)) } : Piece)])) (al (by simp_all; omega) (trivial))) (nm_pre (E' := [(0, none, vstr s), (4, none, .own 0), (5, none, .own 3), (6, none, vint .i64 (((nxR s (setR s p).2.1) : Nat) : Int))]) (H' := [oL 54 (eL ePiece 38 dPiece) 1 [] out, .dead, .box (.p ((eA eB 1 37) ((setR s p).1))), oL 95 ePiece 38 dPiece ((addR cur (setR s p).1 (moR s (setR s p).2.1)) ++ ([({ Set := (setR s p).1, More := (moT (moR s (setR s p).2.1)) } : Piece)]))]) (fun _ _ => sl_arr (n := ((addR cur (setR s p).1 (moR s (setR s p).2.1)).length + ([({ Set := (setR s p).1, More := (moT (moR s (setR s p).2.1)) } : Piece)]).length)) (n' := ((addR cur (setR s p).1 (moR s (setR s p).2.1)) ++ ([({ Set := (setR s p).1, More := (moT (moR s (setR s p).2.1)) } : Piece)])).length) (f := appF (fun i => .p (ePiece ((addR cur (setR s p).1 (moR s (setR s p).2.1)).getD i dPiece))) ((addR cur (setR s p).1 (moR s (setR s p).2.1)).length) (fun j => .p (ePiece (([({ Set := (setR s p).1, More := (moT (moR s (setR s p).2.1)) } : Piece)]).getD j dPiece)))) 3 (fun i => .p (ePiece (((addR cur (setR s p).1 (moR s (setR s p).2.1)) ++ ([({ Set := (setR s p).1, More := (moT (moR s (setR s p).2.1)) } : Piece)])).getD i dPiece))) (by kernel_rfl) (by simp) (by first | exact appN | exact nilN | exact app0 | exact nilV _)) (in_n (lp_end ((n - 1), (nxR s (setR s p).2.1), ((addR cur (setR s p).1 (moR s (setR s p).2.1)) ++ ([({ Set := (setR s p).1, More := (moT (moR s (setR s p).2.1)) } : Piece)])), out) ?_ ?_ ?_)))
       ·show (brR (n - 1) s (nxR s (setR s p).2.1) ((addR cur (setR s p).1 (moR s (setR s p).2.1)) ++ ([({ Set := (setR s p).1, More := (moT (moR s (setR s p).2.1)) } : Piece)])) out = branchesR s) ∧ (s.length < (n - 1) + (nxR s (setR s p).2.1)) ∧ ((nxR s (setR s p).2.1) ≤ s.length) ∧ (((addR cur (setR s p).1 (moR s (setR s p).2.1)) ++ ([({ Set := (setR s p).1, More := (moT (moR s (setR s p).2.1)) } : Piece)])).length ≤ 2 * (nxR s (setR s p).2.1)) ∧ (out.length ≤ (nxR s (setR s p).2.1))
        refine ⟨?_, ?_, ?_, ?_, ?_⟩
        ·rw [← hi0_0]; first | (rw [brR_2 (n := n) (by omega) hc1 hc2 hc3]; done) | (rw [brR_4 (n := n) (by omega) hc1 hc2 hc4]; done)
        ·grind
        ·(simp_all; done)
        ·grind
        ·grind
       ·show s.length - (nxR s (setR s p).2.1) < s.length - p
        first | omega | (have h1 := hsl (by omega) hc4; have h2 := hnx h1.2; omega)
       ·intro A_ W_ hS
        exact q_v [∀ i, i < out.length → D.p ((eL ePiece 38 dPiece) (out.getD i [])) = .p ((eL ePiece 38 dPiece) (out.getD i [])), ∀ i, i < ((addR cur (setR s p).1 (moR s (setR s p).2.1)) ++ ([({ Set := (setR s p).1, More := (moT (moR s (setR s p).2.1)) } : Piece)])).length → D.p (ePiece (((addR cur (setR s p).1 (moR s (setR s p).2.1)) ++ ([({ Set := (setR s p).1, More := (moT (moR s (setR s p).2.1)) } : Piece)])).getD i dPiece)) = .p (ePiece (((addR cur (setR s p).1 (moR s (setR s p).2.1)) ++ ([({ Set := (setR s p).1, More := (moT (moR s (setR s p).2.1)) } : Piece)])).getD i dPiece))] [0, 3] [0, 4, 5, 6] (al (fun _ _ => rfl) (al (fun _ _ => rfl) trivial)) hS
      ·refine tr_seq (q_t [0, 4, 5, 6, 7, 10, 66] [vstr s, .own 0, .own 1, vint .i64 (((nxR s (setR s p).2.1) : Nat) : Int), .ref 2 [], vint .u8 (moR s (setR s p).2.1), vbool ((moR s (setR s p).2.1) == 43)] [oL 54 (eL ePiece 38 dPiece) 1 [] out, oL 95 ePiece 38 dPiece cur, .box (.p ((eA eB 1 37) ((setR s p).1)))] (tr_then (q_c ((moR s (setR s p).2.1) == 43) ((moR s (setR s p).2.1) = 43) (fun hc5 => ?_) (fun hc5 => ?_))))
       ·refine tr_seq (q_r [∀ j, j < 1 → ([.agg [(eA eB 1 37) ((setR s p).1), .v (.int .u8 0)]] : List PV).getD j default = (fun i => ePiece (([({ Set := (setR s p).1, More := 0 } : Piece)]).getD i dPiece)) j, (cur.length + (([({ Set := (setR s p).1, More := 0 } : Piece)]).length)) * 38 ≤ 140737488355328] [0, 4, 5, 6, 7] [vstr s, .own 0, .own 3, vint .i64 (((nxR s (setR s p).2.1) : Nat) : Int), .ref 2 []] [oL 54 (eL ePiece 38 dPiece) 1 [] out, .dead, .box (.p ((eA eB 1 37) ((setR s p).1))), .arr 95 38 (cur.length + ([({ Set := (setR s p).1, More := 0 } : Piece)]).length) (appF (fun i => .p (ePiece (cur.getD i dPiece))) cur.length (fun j => .p (ePiece (([({ Set := (setR s p).1, More := 0 } : Piece)]).getD j dPiece))))] [] [(3, .p ((eL ePiece 38 dPiece) ([({ Set := (setR s p).1, More := 0 } : Piece)])))] (al (lit_pv (e := ePiece) (d := dPiece) (l := [({ Set := (setR s p).1, More := 0 } : Piece)])) (al (by simp_all; omega) (trivial))) (nm_pre (E' := [(0, none, vstr s), (4, none, .own 0), (5, none, .own 3), (6, none, vint .i64 (((nxR s (setR s p).2.1) : Nat) : Int)), (7, none, .ref 2 [])]) (H' := [oL 54 (eL ePiece 38 dPiece) 1 [] out, .dead, .box (.p ((eA eB 1 37) ((setR s p).1))), oL 95 ePiece 38 dPiece (cur ++ ([({ Set := (setR s p).1, More := 0 } : Piece)]))]) (fun _ _ => sl_arr (n := (cur.length + ([({ Set := (setR s p).1, More := 0 } : Piece)]).length)) (n' := (cur ++ ([({ Set := (setR s p).1, More := 0 } : Piece)])).length) (f := appF (fun i => .p (ePiece (cur.getD i dPiece))) cur.length (fun j => .p (ePiece (([({ Set := (setR s p).1, More := 0 } : Piece)]).getD j dPiece)))) 3 (fun i => .p (ePiece ((cur ++ ([({ Set := (setR s p).1, More := 0 } : Piece)])).getD i dPiece))) (by kernel_rfl) (by simp) (by first | exact appN | exact nilN | exact app0 | exact nilV _)) (tr_then (q_m [0, 4, 5, 6, 7, 10] [vstr s, .own 0, .own 3, vint .i64 (((nxR s (setR s p).2.1) : Nat) : Int), .ref 2 [], vint .u8 42] (jn_end () ?_ ?_)))))
        ·exact trivial
        ·intro A_ W_ hS
         replace hS := q_a (d := vint .u8 42) 10 (vint .u8 (moT (moR s (setR s p).2.1))) (eqD_int (by first | (rw [moT, if_pos hc5]; done) | (rw [moT, if_neg hc5]; done))) hS
         replace hS := sl_arr (e := 95) (sz := 38) (n := (cur ++ ([({ Set := (setR s p).1, More := 0 } : Piece)])).length) (n' := (addR cur (setR s p).1 (moR s (setR s p).2.1)).length) (f := (fun i => .p (ePiece ((cur ++ ([({ Set := (setR s p).1, More := 0 } : Piece)])).getD i dPiece)))) 3 (fun i => .p (ePiece ((addR cur (setR s p).1 (moR s (setR s p).2.1)).getD i dPiece))) (by kernel_rfl) (by first | (rw [addR, if_pos hc5]; done) | (rw [addR, if_neg hc5]; done)) (by first | (rw [addR, if_pos hc5]; exact fun _ _ => rfl) | (rw [addR, if_neg hc5]; exact fun _ _ => rfl)) hS
         exact q_v [∀ i, i < out.length → D.p ((eL ePiece 38 dPiece) (out.getD i [])) = .p ((eL ePiece 38 dPiece) (out.getD i [])), ∀ i, i < (addR cur (setR s p).1 (moR s (setR s p).2.1)).length → D.p (ePiece ((addR cur (setR s p).1 (moR s (setR s p).2.1)).getD i dPiece)) = .p (ePiece ((addR cur (setR s p).1 (moR s (setR s p).2.1)).getD i dPiece))] [0, 3, 2] [0, 4, 5, 6, 7, 10] (al (fun _ _ => rfl) (al (fun _ _ => rfl) trivial)) hS
       ·refine tr_skip (jn_end () ?_ ?_)
        ·exact trivial
        ·intro A_ W_ hS
         replace hS := q_a (d := vint .u8 (moR s (setR s p).2.1)) 10 (vint .u8 (moT (moR s (setR s p).2.1))) (eqD_int (by first | (rw [moT, if_pos hc5]; done) | (rw [moT, if_neg hc5]; done))) hS
         replace hS := sl_arr (e := 95) (sz := 38) (n := cur.length) (n' := (addR cur (setR s p).1 (moR s (setR s p).2.1)).length) (f := (fun i => .p (ePiece (cur.getD i dPiece)))) 1 (fun i => .p (ePiece ((addR cur (setR s p).1 (moR s (setR s p).2.1)).getD i dPiece))) (by kernel_rfl) (by first | (rw [addR, if_pos hc5]; done) | (rw [addR, if_neg hc5]; done)) (by first | (rw [addR, if_pos hc5]; exact fun _ _ => rfl) | (rw [addR, if_neg hc5]; exact fun _ _ => rfl)) hS
         exact q_v [∀ i, i < out.length → D.p ((eL ePiece 38 dPiece) (out.getD i [])) = .p ((eL ePiece 38 dPiece) (out.getD i [])), ∀ i, i < (addR cur (setR s p).1 (moR s (setR s p).2.1)).length → D.p (ePiece ((addR cur (setR s p).1 (moR s (setR s p).2.1)).getD i dPiece)) = .p (ePiece ((addR cur (setR s p).1 (moR s (setR s p).2.1)).getD i dPiece))] [0, 1, 2] [0, 4, 5, 6, 7, 10] (al (fun _ _ => rfl) (al (fun _ _ => rfl) trivial)) hS
     ·refine tr_seq (q_s [(decide ((((setR s p).2.1 : Nat) : Int) < (s.length : Int))) = true → (decide ((((setR s p).2.1 : Nat) : Int) < (s.length : Int))) = true, (decide ((((setR s p).2.1 : Nat) : Int) < (s.length : Int))) = true → (decide ((((setR s p).2.1 : Nat) : Int) < (s.length : Int))) = true, (decide ((((setR s p).2.1 : Nat) : Int) < (s.length : Int))) = true → ((0 : Int) ≤ (((setR s p).2.1 : Nat) : Int)), (decide ((((setR s p).2.1 : Nat) : Int) < (s.length : Int))) = true → ((((setR s p).2.1 : Nat) : Int) < (s.length : Int)), (decide ((((setR s p).2.1 : Nat) : Int) < (s.length : Int))) = true → (decide ((((setR s p).2.1 : Nat) : Int) < (s.length : Int))) = true, (decide ((((setR s p).2.1 : Nat) : Int) < (s.length : Int))) = true → (decide ((((setR s p).2.1 : Nat) : Int) < (s.length : Int))) = true, ((decide ((((setR s p).2.1 : Nat) : Int) < (s.length : Int))) && (!(((s.getD ((setR s p).2.1) 0).toNat : Int) == 63))) = true → ((decide ((((setR s p).2.1 : Nat) : Int) < (s.length : Int))) && (!(((s.getD ((setR s p).2.1) 0).toNat : Int) == 63))) = true, ((decide ((((setR s p).2.1 : Nat) : Int) < (s.length : Int))) && (!(((s.getD ((setR s p).2.1) 0).toNat : Int) == 63))) = true → ((decide ((((setR s p).2.1 : Nat) : Int) < (s.length : Int))) && (!(((s.getD ((setR s p).2.1) 0).toNat : Int) == 63))) = true, ((decide ((((setR s p).2.1 : Nat) : Int) < (s.length : Int))) && (!(((s.getD ((setR s p).2.1) 0).toNat : Int) == 63))) = true → ((0 : Int) ≤ (((setR s p).2.1 : Nat) : Int)), ((decide ((((setR s p).2.1 : Nat) : Int) < (s.length : Int))) && (!(((s.getD ((setR s p).2.1) 0).toNat : Int) == 63))) = true → ((((setR s p).2.1 : Nat) : Int) < (s.length : Int)), ((decide ((((setR s p).2.1 : Nat) : Int) < (s.length : Int))) && (!(((s.getD ((setR s p).2.1) 0).toNat : Int) == 63))) = true → ((decide ((((setR s p).2.1 : Nat) : Int) < (s.length : Int))) && (!(((s.getD ((setR s p).2.1) 0).toNat : Int) == 63))) = true, (decide ((((setR s p).2.1 : Nat) : Int) < (s.length : Int))) = true → ((decide ((((setR s p).2.1 : Nat) : Int) < (s.length : Int))) = true → (decide ((((setR s p).2.1 : Nat) : Int) < (s.length : Int))) = true), ((decide ((((setR s p).2.1 : Nat) : Int) < (s.length : Int))) && (!(((s.getD ((setR s p).2.1) 0).toNat : Int) == 63))) = true → ((decide ((((setR s p).2.1 : Nat) : Int) < (s.length : Int))) && (!(((s.getD ((setR s p).2.1) 0).toNat : Int) == 63))) = true, (decide ((((setR s p).2.1 : Nat) : Int) < (s.length : Int))) = true → (decide ((((setR s p).2.1 : Nat) : Int) < (s.length : Int))) = true, ((decide ((((setR s p).2.1 : Nat) : Int) < (s.length : Int))) && (!((((s.getD ((setR s p).2.1) 0).toNat : Int) == 63) || (((s.getD ((setR s p).2.1) 0).toNat : Int) == 43)))) = true → ((decide ((((setR s p).2.1 : Nat) : Int) < (s.length : Int))) && (!((((s.getD ((setR s p).2.1) 0).toNat : Int) == 63) || (((s.getD ((setR s p).2.1) 0).toNat : Int) == 43)))) = true, ((decide ((((setR s p).2.1 : Nat) : Int) < (s.length : Int))) && (!((((s.getD ((setR s p).2.1) 0).toNat : Int) == 63) || (((s.getD ((setR s p).2.1) 0).toNat : Int) == 43)))) = true → ((decide ((((setR s p).2.1 : Nat) : Int) < (s.length : Int))) && (!((((s.getD ((setR s p).2.1) 0).toNat : Int) == 63) || (((s.getD ((setR s p).2.1) 0).toNat : Int) == 43)))) = true, ((decide ((((setR s p).2.1 : Nat) : Int) < (s.length : Int))) && (!((((s.getD ((setR s p).2.1) 0).toNat : Int) == 63) || (((s.getD ((setR s p).2.1) 0).toNat : Int) == 43)))) = true → ((0 : Int) ≤ (((setR s p).2.1 : Nat) : Int)), ((decide ((((setR s p).2.1 : Nat) : Int) < (s.length : Int))) && (!((((s.getD ((setR s p).2.1) 0).toNat : Int) == 63) || (((s.getD ((setR s p).2.1) 0).toNat : Int) == 43)))) = true → ((((setR s p).2.1 : Nat) : Int) < (s.length : Int)), ((decide ((((setR s p).2.1 : Nat) : Int) < (s.length : Int))) && (!((((s.getD ((setR s p).2.1) 0).toNat : Int) == 63) || (((s.getD ((setR s p).2.1) 0).toNat : Int) == 43)))) = true → ((decide ((((setR s p).2.1 : Nat) : Int) < (s.length : Int))) && (!((((s.getD ((setR s p).2.1) 0).toNat : Int) == 63) || (((s.getD ((setR s p).2.1) 0).toNat : Int) == 43)))) = true, (decide ((((setR s p).2.1 : Nat) : Int) < (s.length : Int))) = true → ((decide ((((setR s p).2.1 : Nat) : Int) < (s.length : Int))) = true → (decide ((((setR s p).2.1 : Nat) : Int) < (s.length : Int))) = true), ((decide ((((setR s p).2.1 : Nat) : Int) < (s.length : Int))) && (!((((s.getD ((setR s p).2.1) 0).toNat : Int) == 63) || (((s.getD ((setR s p).2.1) 0).toNat : Int) == 43)))) = true → ((decide ((((setR s p).2.1 : Nat) : Int) < (s.length : Int))) && (!((((s.getD ((setR s p).2.1) 0).toNat : Int) == 63) || (((s.getD ((setR s p).2.1) 0).toNat : Int) == 43)))) = true, (decide ((((setR s p).2.1 : Nat) : Int) < (s.length : Int))) = true → (decide ((((setR s p).2.1 : Nat) : Int) < (s.length : Int))) = true] [0, 4, 5, 6, 7, 10, 59] [vstr s, .own 0, .own 1, vint .i64 (((setR s p).2.1 : Nat) : Int), .ref 2 [], vint .u8 0, vbool ((decide ((((setR s p).2.1 : Nat) : Int) < (s.length : Int))) && (((((s.getD ((setR s p).2.1) 0).toNat : Int) == 63) || (((s.getD ((setR s p).2.1) 0).toNat : Int) == 43)) || (((s.getD ((setR s p).2.1) 0).toNat : Int) == 42)))] [oL 54 (eL ePiece 38 dPiece) 1 [] out, oL 95 ePiece 38 dPiece cur, .box (.p ((eA eB 1 37) ((setR s p).1)))] (al id (al id (al (by omega) (al (by intro hg; simp at hg; omega) (al id (al id (al id (al id (al (by omega) (al (by intro hg; simp at hg; omega) (al id (al (by intro _; exact id) (al id (al id (al id (al id (al (by omega) (al (by intro hg; simp at hg; omega) (al id (al (by intro _; exact id) (al id (al id (trivial))))))))))))))))))))))) (tr_then (q_c ((decide ((((setR s p).2.1 : Nat) : Int) < (s.length : Int))) && (((((s.getD ((setR s p).2.1) 0).toNat : Int) == 63) || (((s.getD ((setR s p).2.1) 0).toNat : Int) == 43)) || (((s.getD ((setR s p).2.1) 0).toNat : Int) == 42))) (((((setR s p).2.1 : Nat) : Int) < (s.length : Int)) ∧ (((((s.getD ((setR s p).2.1) 0).toNat : Int) = 63) ∨ (((s.getD ((setR s p).2.1) 0).toNat : Int) = 43)) ∨ (((s.getD ((setR s p).2.1) 0).toNat : Int) = 42))) (fun hc6 => ?_) (fun hc6 => ?_))))
      ·refine tr_seq (q_l [(0 : Int) ≤ (((setR s p).2.1 : Nat) : Int), (((setR s p).2.1 : Nat) : Int) < (s.length : Int)] [0, 4, 5, 6, 7, 10] [vstr s, .own 0, .own 1, vint .i64 (((setR s p).2.1 : Nat) : Int), .ref 2 [], vint .u8 ((s.getD ((setR s p).2.1) 0).toNat : Int)] (al (by omega) (al (by omega) (trivial))) (tr_then (q_k [(IntKind.wrap .i64 ((((setR s p).2.1 : Nat) : Int) + 1)) = ((((setR s p).2.1 + 1) : Nat) : Int)] [0, 4, 5, 6, 7, 10] [vstr s, .own 0, .own 1, vint .i64 ((((setR s p).2.1 + 1) : Nat) : Int), .ref 2 [], vint .u8 ((s.getD ((setR s p).2.1) 0).toNat : Int)] [(1, vint .i64 ((((setR s p).2.1 + 1) : Nat) : Int))] [] (al (wr64 (by omega) (by omega) (by omega)) (trivial)) (jn_end () ?_ ?_))))
       ·exact trivial
       ·intro A_ W_ hS
        replace hS := q_a (d := vint .i64 ((((setR s p).2.1 + 1) : Nat) : Int)) 6 (vint .i64 (((nxR s (setR s p).2.1) : Nat) : Int)) (eqD_int (by first | (rw [nxR, if_pos (show HasM s (setR s p).2.1 from hc6)]; done) | (rw [nxR, if_neg (show ¬ HasM s (setR s p).2.1 from hc6)]; done))) hS
        replace hS := q_a (d := vint .u8 ((s.getD ((setR s p).2.1) 0).toNat : Int)) 10 (vint .u8 (moR s (setR s p).2.1)) (eqD_int (by first | (rw [moR, if_pos (show HasM s (setR s p).2.1 from hc6)]; done) | (rw [moR, if_neg (show ¬ HasM s (setR s p).2.1 from hc6)]; done))) hS
        exact q_v [∀ i, i < out.length → D.p ((eL ePiece 38 dPiece) (out.getD i [])) = .p ((eL ePiece 38 dPiece) (out.getD i [])), ∀ i, i < cur.length → D.p (ePiece (cur.getD i dPiece)) = .p (ePiece (cur.getD i dPiece))] [0, 1, 2] [0, 4, 5, 6, 7, 10] (al (fun _ _ => rfl) (al (fun _ _ => rfl) trivial)) hS
      ·refine tr_skip (jn_end () ?_ ?_)
       ·exact trivial
       ·intro A_ W_ hS
        replace hS := q_a (d := vint .i64 (((setR s p).2.1 : Nat) : Int)) 6 (vint .i64 (((nxR s (setR s p).2.1) : Nat) : Int)) (eqD_int (by first | (rw [nxR, if_pos (show HasM s (setR s p).2.1 from hc6)]; done) | (rw [nxR, if_neg (show ¬ HasM s (setR s p).2.1 from hc6)]; done))) hS
        replace hS := q_a (d := vint .u8 0) 10 (vint .u8 (moR s (setR s p).2.1)) (eqD_int (by first | (rw [moR, if_pos (show HasM s (setR s p).2.1 from hc6)]; done) | (rw [moR, if_neg (show ¬ HasM s (setR s p).2.1 from hc6)]; done))) hS
        exact q_v [∀ i, i < out.length → D.p ((eL ePiece 38 dPiece) (out.getD i [])) = .p ((eL ePiece 38 dPiece) (out.getD i [])), ∀ i, i < cur.length → D.p (ePiece (cur.getD i dPiece)) = .p (ePiece (cur.getD i dPiece))] [0, 1, 2] [0, 4, 5, 6, 7, 10] (al (fun _ _ => rfl) (al (fun _ _ => rfl) trivial)) hS
  ·refine tr_exit (th_e (th_e (in_hit (tr_then (tr_seq (tr_seq (q_m [4, 5, 80] [.own 0, .own 1, vbool ((cur.length : Int) == 0)] (tr_then (q_c ((cur.length : Int) == 0) ((cur.length : Int) = 0) (fun hc7 => ?_) (fun hc7 => ?_))))))))))
   ·refine tr_seq (q_m [2, 3] [.p (.v (.slice none 0 0)), vbool false] (tr_then (tr_pre (E' := [(2, none, .p (.v (.slice none 0 0))), (3, none, vbool false)]) (H' := []) (fun _ _ h => q_w [] [2, 3] h) (q_i (d := .p (.v (.slice none 0 0))) 2 (.p ((eL (eL ePiece 38 dPiece) 1 []) (brOf (branchesR s)))) ?_ ?_))))
    ·refine imp_nil (brOf (branchesR s)) ?_
     rw [← hi0_0]; first | (rw [brR_1 (by omega) hc1 hc2 hc3]; rfl) | (rw [brR_3 (by omega) hc1 hc2 hc4]; rfl) | (rw [brR_5 (by omega) hc1 hc7]; rfl) | (rw [brR_6 (by omega) hc1 hc7]; rfl)
    refine q_i (d := vbool false) 3 (vbool ((branchesR s).isSome)) ?_ ?_
    ·refine imp_eq (congrArg (fun x => D.p (eB x)) (a₁ := false) (a₂ := ((branchesR s).isSome)) ?_)
     rw [← hi0_0]; first | (rw [brR_1 (by omega) hc1 hc2 hc3]; rfl) | (rw [brR_3 (by omega) hc1 hc2 hc4]; rfl) | (rw [brR_5 (by omega) hc1 hc7]; rfl) | (rw [brR_6 (by omega) hc1 hc7]; rfl)
    exact q_z [.p ((eL (eL ePiece 38 dPiece) 1 []) (brOf (branchesR s))), vbool ((branchesR s).isSome)] (fun _ _ h => h)
   ·refine tr_skip (tr_then (tr_seq (tr_pre (E' := [(4, none, .own 0), (5, none, .p ((eL ePiece 38 dPiece) cur)), (80, none, vbool ((cur.length : Int) == 0))]) (H' := [oL 54 (eL ePiece 38 dPiece) 1 [] out, .dead]) (fun _ _ => sl_freeze (vc := [∀ j, j < cur.length → D.p (ePiece (cur.getD j dPiece)) = .p ((fun j => ePiece (cur.getD j dPiece)) j), ∀ i, i < out.length → D.p ((eL ePiece 38 dPiece) (out.getD i [])) = .p ((eL ePiece 38 dPiece) (out.getD i []))]) 1 (fun j => ePiece (cur.getD j dPiece)) (by kernel_rfl) (al (fun _ _ => rfl) (al (fun _ _ => rfl) trivial))) (q_r [∀ j, j < 1 → ([(eL ePiece 38 dPiece) cur] : List PV).getD j default = (fun i => (eL ePiece 38 dPiece) (([cur]).getD i [])) j, (out.length + (([cur]).length)) * 24 ≤ 140737488355328] [2, 3] [.own 2, vbool true] [.dead, .dead, .arr 54 1 (out.length + ([cur]).length) (appF (fun i => .p ((eL ePiece 38 dPiece) (out.getD i []))) out.length (fun j => .p ((eL ePiece 38 dPiece) (([cur]).getD j []))))] [] [(2, .p ((eL (eL ePiece 38 dPiece) 1 []) ([cur])))] (al (lit_pv (e := (eL ePiece 38 dPiece)) (d := []) (l := [cur])) (al (by simp_all; omega) (trivial))) (nm_pre (E' := [(2, none, .own 2), (3, none, vbool true)]) (H' := [.dead, .dead, oL 54 (eL ePiece 38 dPiece) 1 [] (out ++ ([cur]))]) (fun _ _ => sl_arr (n := (out.length + ([cur]).length)) (n' := (out ++ ([cur])).length) (f := appF (fun i => .p ((eL ePiece 38 dPiece) (out.getD i []))) out.length (fun j => .p ((eL ePiece 38 dPiece) (([cur]).getD j [])))) 2 (fun i => .p ((eL ePiece 38 dPiece) ((out ++ ([cur])).getD i []))) (by kernel_rfl) (by simp) (by first | exact appN | exact nilN | exact app0 | exact nilV _)) (tr_then (tr_pre (E' := [(2, none, .own 0), (3, none, vbool true)]) (H' := [oL 54 (eL ePiece 38 dPiece) 1 [] (out ++ ([cur]))]) (fun A_ W_ hS => sl_weak (vc := [∀ i, i < (out ++ ([cur])).length → D.p ((eL ePiece 38 dPiece) ((out ++ ([cur])).getD i [])) = .p ((eL ePiece 38 dPiece) ((out ++ ([cur])).getD i []))]) [2] [2, 3] (by kernel_rfl) (al (fun _ _ => rfl) trivial) hS) (tr_pre (E' := [(2, none, .p ((eL (eL ePiece 38 dPiece) 1 []) (out ++ ([cur])))), (3, none, vbool true)]) (H' := [.dead]) (fun _ _ => sl_freeze (vc := [∀ j, j < (out ++ ([cur])).length → D.p ((eL ePiece 38 dPiece) ((out ++ ([cur])).getD j [])) = .p ((fun j => (eL ePiece 38 dPiece) ((out ++ ([cur])).getD j [])) j)]) 0 (fun j => (eL ePiece 38 dPiece) ((out ++ ([cur])).getD j [])) (by kernel_rfl) (al (fun _ _ => rfl) trivial)) (q_i (d := .p ((eL (eL ePiece 38 dPiece) 1 []) (out ++ ([cur])))) 2 (.p ((eL (eL ePiece 38 dPiece) 1 []) (brOf (branchesR s)))) ?_ ?_)))))))))
    ·refine imp_eq (congrArg (fun x => D.p ((eL (eL ePiece 38 dPiece) 1 []) x)) (a₁ := (out ++ ([cur]))) (a₂ := (brOf (branchesR s))) ?_)
     rw [← hi0_0]; first | (rw [brR_1 (by omega) hc1 hc2 hc3]; rfl) | (rw [brR_3 (by omega) hc1 hc2 hc4]; rfl) | (rw [brR_5 (by omega) hc1 hc7]; rfl) | (rw [brR_6 (by omega) hc1 hc7]; rfl)
    refine q_i (d := vbool true) 3 (vbool ((branchesR s).isSome)) ?_ ?_
    ·refine imp_eq (congrArg (fun x => D.p (eB x)) (a₁ := true) (a₂ := ((branchesR s).isSome)) ?_)
     rw [← hi0_0]; first | (rw [brR_1 (by omega) hc1 hc2 hc3]; rfl) | (rw [brR_3 (by omega) hc1 hc2 hc4]; rfl) | (rw [brR_5 (by omega) hc1 hc7]; rfl) | (rw [brR_6 (by omega) hc1 hc7]; rfl)
    exact q_z [.p ((eL (eL ePiece 38 dPiece) 1 []) (brOf (branchesR s))), vbool ((branchesR s).isSome)] (fun _ _ h => h)
end Go.Proofs.Ytjnjmnfacaakfaa
namespace Go.Proofs.Ytjnjmnfacaakfaa
open Go.Eng
abbrev Mp := Nat → Option Bool
def gb (M : Mp) (k : Nat) : Bool := (M k).getD false
def putM (M : Mp) (k : Nat) (b : Bool) : Mp := fun i => if i = k then some b else M i
def mapO (M : Mp) : List Int → Option PV
 | [i] => if 0 ≤ i then (M i.toNat).map fun b => .v (.bool b) else none
 | _ => none
theorem mapO_get (M : Mp) (k : Int) (h : 0 ≤ k) : eqD (.p ((mapO M ([k] : List Int)).getD (.v (.bool false)))) (vbool (gb M k.toNat)) := by
 refine eqD_of (congrArg D.p ?_)
 unfold mapO gb
 simp only [if_pos h]
 cases M k.toNat <;> rfl
theorem mapO_put (M : Mp) (k : Int) (b : Bool) (h : 0 ≤ k) : setMap (mapO M) ([k] : List Int) (.v (.bool b)) = mapO (putM M k.toNat b) := by
 funext j
 by_cases hj : j = [k]
 ·subst hj
  rw [setMap_at]
  simp only [mapO, if_pos h, putM, if_true, Option.map_some]
 ·rw [setMap_ne hj]
  match j, hj with
  | [], _ => rfl
  | [i], hj =>
   have : i ≠ k := fun e => hj (by rw [e])
   simp only [mapO, putM]
   by_cases hi : 0 ≤ i
   ·rw [if_pos hi, if_pos hi, if_neg (by omega)]
   ·rw [if_neg hi, if_neg hi]
  | _ :: _ :: _, _ => rfl
def mp0 : Mp := fun i => if i = 0 then some true else none
def mpL (l : Lang) (k : Nat) : Mp := fun i => if i < k then some (l.Accept.getD i false) else none
theorem mp0_eq : setMap (fun _ => none) ([0] : List Int) (.v (.bool true)) = mapO mp0 := by
 have e : (fun _ => none) = mapO (fun _ => none) := by
  funext j
  match j with
  | [] => rfl
  | [i] => simp [mapO]
  | _ :: _ :: _ => rfl
 rw [e, mapO_put _ _ _ (by omega)]
 rfl
theorem mpL_0 (l : Lang) : (fun _ => none) = mapO (mpL l 0) := by
 funext j
 match j with
 | [] => rfl
 | [i] => simp [mapO, mpL]
 | _ :: _ :: _ => rfl
theorem mpL_s (l : Lang) (k : Nat) : setMap (mapO (mpL l k)) ([(k : Int)] : List Int) (.v (.bool (l.Accept.getD k false))) = mapO (mpL l (k + 1)) := by
 rw [mapO_put _ _ _ (by omega)]
 congr 1
 funext i
 unfold putM mpL
 rw [Int.toNat_natCast]
 by_cases h : i = k
 ·subst h; rw [if_pos rfl, if_pos (by omega)]
 ·rw [if_neg h]
  by_cases h1 : i < k
  ·rw [if_pos h1, if_pos (by omega)]
  ·rw [if_neg h1, if_neg (by omega)]
def toL (l : Lang) (k c : Nat) : Int := (l.Next.getD k []).getD c 0
def cellL (l : Lang) (k c : Nat) (x : Mp × Mp) : Mp × Mp := if 0 ≤ toL l k c then (putM x.1 (toL l k c).toNat (gb x.1 (toL l k c).toNat || gb x.1 k), putM x.2 k (gb x.2 k || gb x.2 (toL l k c).toNat)) else x
def rowLv (l : Lang) (k : Nat) (x : Mp × Mp) : Nat → Mp × Mp
 | 0 => x
 | c + 1 => cellL l k c (rowLv l k x c)
def rndL (l : Lang) (x : Mp × Mp) : Nat → Mp × Mp
 | 0 => x
 | k + 1 => rowLv l k (rndL l x k) (l.Next.getD k []).length
def allL (l : Lang) : Nat → Mp × Mp
 | 0 => (mp0, mpL l l.Accept.length)
 | r + 1 => rndL l (allL l r) l.Next.length
def outL (l : Lang) (x : Mp × Mp) (q : Nat) : List Bool := (List.range l.Accept.length).map fun k => if k < q then gb x.1 k && gb x.2 k else false
def liveL (l : Lang) : List Bool := outL l (allL l l.Accept.length) l.Accept.length
def liveS (l : Lang) : List Bool := if check l ≠ 0 then [] else liveL l
theorem outL_len (l : Lang) (x : Mp × Mp) (q : Nat) : (outL l x q).length = l.Accept.length := by simp [outL]
theorem outL_0 (l : Lang) (x : Mp × Mp) : List.replicate l.Accept.length false = outL l x 0 := by
 apply List.ext_getElem (by simp [outL])
 intro i h1 h2
 simp [outL]
theorem outL_s (l : Lang) (x : Mp × Mp) {q : Nat} (hq : q < l.Accept.length) : (outL l x q).set q (gb x.1 q && gb x.2 q) = outL l x (q + 1) := by
 apply List.ext_getElem (by simp [outL])
 intro i h1 h2
 rw [List.getElem_set]
 simp only [outL, List.getElem_map, List.getElem_range]
 by_cases h : q = i
 ·subst h; rw [if_pos rfl, if_pos (by omega)]
 ·rw [if_neg h]
  by_cases h1 : i < q
  ·rw [if_pos h1, if_pos (by omega)]
  ·rw [if_neg h1, if_neg (by omega)]
theorem live_ok (l : Lang) : Pure Try.prog 25 [eLang l] (.p ((eL eB 1 false) (liveS l))) := by
 refine pure_of (fn := Try.f25) Try.func25 rfl rfl fun F_ W0_ => ?_
 refine tr_seq (q_t [1] [.ref 0 []] [.box (.p (eLang l))] (tr_then (tr_seq (tr_seq (q_k [Pure Try.prog 20 [eLang l] (vint .i64 (check l))] [1, 15] [.ref 0 [], vbool ((check l) != 0)] [] [(1, vint .i64 (check l))] (al (check_ok _) (trivial)) (tr_then (q_c ((check l) != 0) ((check l) ≠ 0) (fun hc1 => ?_) (fun hc1 => ?_))))))))
 ·refine tr_seq (q_m [2] [.p (.v (.slice none 0 0))] (tr_then (tr_pre (E' := [(2, none, .p (.v (.slice none 0 0)))]) (H' := []) (fun _ _ h => q_w [] [2] h) (q_i (d := .p (.v (.slice none 0 0))) 2 (.p ((eL eB 1 false) (liveS l))) ?_ ?_))))
  ·refine imp_nil (liveS l) ?_
   rw [liveS, if_pos hc1]
  exact q_z [.p ((eL eB 1 false) (liveS l))] (fun _ _ h => h)
 ·refine tr_skip (tr_then (tr_seq (q_t [1, 3, 4] [.ref 0 [], .own 1, .own 2] [.box (.p (eLang l)), .map (.one .i64) (setMap (fun _ => none) ([0] : List Int) (.v (.bool true))), .map (.one .i64) (fun _ => none)] (tr_then (tr_seq (tr_seq (q_m [1, 3, 4, 20, 21, 22] [.ref 0 [], .own 1, .own 2, .p ((eL eB 1 false) l.Accept), vint .i64 (l.Accept.length : Int), vint .i64 0] (tr_then (tr_block (tr_loop (α := Nat) (fun z : Nat => (fun (k : Nat) => [(1, none, .ref 0 []), (3, none, .own 1), (4, none, .own 2), (20, none, .p ((eL eB 1 false) l.Accept)), (21, none, vint .i64 (l.Accept.length : Int)), (22, none, vint .i64 (k : Int))]) z) (fun z : Nat => (fun (k : Nat) => [.box (.p (eLang l)), .map (.one .i64) (setMap (fun _ => none) ([0] : List Int) (.v (.bool true))), .map (.one .i64) (mapO (mpL l k))]) z) (fun z : Nat => (fun (k : Nat) => (k ≤ l.Accept.length)) z) (fun z : Nat => (fun (k : Nat) => l.Accept.length - k) z) 0 ?_ ?_ ?_))))))))))
  ·show (0 ≤ l.Accept.length)
   ·omega
  ·intro A_ W_ hS
   replace hS := q_a (d := vint .i64 0) 22 (vint .i64 ((0 : Nat) : Int)) (eqD_int (by omega)) hS
   replace hS := sl_obj (o := .map (.one .i64) (fun _ => none)) 2 (.map (.one .i64) (mapO (mpL l 0))) (by kernel_rfl) (congrArg (O.map (.one .i64)) (a₁ := (fun _ => none)) (a₂ := (mapO (mpL l 0))) (by exact mpL_0 l)) hS
   exact q_w [0, 1, 2] [1, 3, 4, 20, 21, 22] hS
  ·intro z hz
   revert z; intro k hz
   have hz : (k ≤ l.Accept.length) := hz
   have hi0_0 := hz
   have hok : check l = 0 := by omega
   obtain ⟨f1, f2, f3, f4⟩ := check_facts hok
   refine tr_seq (q_t [1, 3, 4, 20, 21, 22, 23] [.ref 0 [], .own 1, .own 2, .p ((eL eB 1 false) l.Accept), vint .i64 (l.Accept.length : Int), vint .i64 (k : Int), vbool (decide ((k : Int) < (l.Accept.length : Int)))] [.box (.p (eLang l)), .map (.one .i64) (setMap (fun _ => none) ([0] : List Int) (.v (.bool true))), .map (.one .i64) (mapO (mpL l k))] (tr_then (tr_seq (q_e ((k : Int) < (l.Accept.length : Int)) (fun hc2 => ?_) (fun hc2 => ?_)))))
   ·refine tr_skip (tr_then (tr_seq (tr_block (tr_seq (q_l [(0 : Int) ≤ (k : Int), (k : Int) < (l.Accept.length : Int)] [1, 3, 4, 5, 6, 20, 21, 22] [.ref 0 [], .own 1, .own 2, vint .i64 (k : Int), vbool (l.Accept.getD k false), .p ((eL eB 1 false) l.Accept), vint .i64 (l.Accept.length : Int), vint .i64 (k : Int)] (al (by omega) (al (by omega) (trivial))) (tr_then (q_t [1, 3, 4, 20, 21, 22] [.ref 0 [], .own 1, .own 2, .p ((eL eB 1 false) l.Accept), vint .i64 (l.Accept.length : Int), vint .i64 (k : Int)] [.box (.p (eLang l)), .map (.one .i64) (setMap (fun _ => none) ([0] : List Int) (.v (.bool true))), .map (.one .i64) (setMap (mapO (mpL l k)) ([(k : Int)] : List Int) (.v (.bool (l.Accept.getD k false))))] (in_n (tr_then (q_k [(IntKind.wrap .i64 ((k : Int) + 1)) = (((k + 1) : Nat) : Int)] [1, 3, 4, 20, 21, 22] [.ref 0 [], .own 1, .own 2, .p ((eL eB 1 false) l.Accept), vint .i64 (l.Accept.length : Int), vint .i64 (((k + 1) : Nat) : Int)] [(0, vint .i64 (((k + 1) : Nat) : Int))] [] (al (wr64 (by omega) (by omega) (by omega)) (trivial)) (lp_end (k + 1) ?_ ?_ ?_)))))))))))
    ·show ((k + 1) ≤ l.Accept.length)
     ·omega
    ·show l.Accept.length - (k + 1) < l.Accept.length - k
     omega
    ·intro A_ W_ hS
     replace hS := sl_obj (o := .map (.one .i64) (setMap (mapO (mpL l k)) ([(k : Int)] : List Int) (.v (.bool (l.Accept.getD k false))))) 2 (.map (.one .i64) (mapO (mpL l (k + 1)))) (by kernel_rfl) (congrArg (O.map (.one .i64)) (a₁ := (setMap (mapO (mpL l k)) ([(k : Int)] : List Int) (.v (.bool (l.Accept.getD k false))))) (a₂ := (mapO (mpL l (k + 1)))) (by exact mpL_s l k)) hS
     exact q_w [0, 1, 2] [1, 3, 4, 20, 21, 22] hS
   ·refine tr_exit (th_e (th_e (in_hit (tr_then (tr_seq (tr_seq (q_m [1, 3, 4, 33, 34] [.ref 0 [], .own 1, .own 2, vint .i64 (l.Accept.length : Int), vint .i64 0] (tr_then (tr_block (tr_loop (α := Nat) (fun z : Nat => (fun (r : Nat) => [(1, none, .ref 0 []), (3, none, .own 1), (4, none, .own 2), (33, none, vint .i64 (l.Accept.length : Int)), (34, none, vint .i64 (r : Int))]) z) (fun z : Nat => (fun (r : Nat) => [.box (.p (eLang l)), .map (.one .i64) (mapO (allL l r).1), .map (.one .i64) (mapO (allL l r).2)]) z) (fun z : Nat => (fun (r : Nat) => (r ≤ l.Accept.length)) z) (fun z : Nat => (fun (r : Nat) => l.Accept.length - r) z) 0 ?_ ?_ ?_))))))))))
    ·show (0 ≤ l.Accept.length)
     ·omega
    ·intro A_ W_ hS
     replace hS := q_a (d := vint .i64 0) 34 (vint .i64 ((0 : Nat) : Int)) (eqD_int (by omega)) hS
     replace hS := sl_obj (o := .map (.one .i64) (setMap (fun _ => none) ([0] : List Int) (.v (.bool true)))) 1 (.map (.one .i64) (mapO (allL l 0).1)) (by kernel_rfl) (congrArg (O.map (.one .i64)) (a₁ := (setMap (fun _ => none) ([0] : List Int) (.v (.bool true)))) (a₂ := (mapO (allL l 0).1)) (by exact mp0_eq)) hS
     replace hS := sl_obj (o := .map (.one .i64) (mapO (mpL l k))) 2 (.map (.one .i64) (mapO (allL l 0).2)) (by kernel_rfl) (congrArg (O.map (.one .i64)) (a₁ := (mapO (mpL l k))) (a₂ := (mapO (allL l 0).2)) (by rw [show k = l.Accept.length by omega]; rfl)) hS
     exact q_w [0, 1, 2] [1, 3, 4, 33, 34] hS
    ·intro z hz
     revert z; intro r hz
     have hz : (r ≤ l.Accept.length) := hz
     have hi1_0 := hz
     have hok : check l = 0 := by omega
     obtain ⟨f1, f2, f3, f4⟩ := check_facts hok
     refine tr_seq (q_t [1, 3, 4, 33, 34, 35] [.ref 0 [], .own 1, .own 2, vint .i64 (l.Accept.length : Int), vint .i64 (r : Int), vbool (decide ((r : Int) < (l.Accept.length : Int)))] [.box (.p (eLang l)), .map (.one .i64) (mapO (allL l r).1), .map (.one .i64) (mapO (allL l r).2)] (tr_then (tr_seq (q_e ((r : Int) < (l.Accept.length : Int)) (fun hc3 => ?_) (fun hc3 => ?_)))))
     ·refine tr_skip (tr_then (tr_seq (tr_block (tr_seq (q_m [1, 3, 4, 33, 34, 37, 38, 39] [.ref 0 [], .own 1, .own 2, vint .i64 (l.Accept.length : Int), vint .i64 (r : Int), .p ((eL (eL eI 1 0) 1 []) l.Next), vint .i64 (l.Next.length : Int), vint .i64 0] (tr_then (tr_block (tr_loop (α := Nat) (fun z : Nat => (fun (k : Nat) => [(1, none, .ref 0 []), (3, none, .own 1), (4, none, .own 2), (33, none, vint .i64 (l.Accept.length : Int)), (34, none, vint .i64 (r : Int)), (37, none, .p ((eL (eL eI 1 0) 1 []) l.Next)), (38, none, vint .i64 (l.Next.length : Int)), (39, none, vint .i64 (k : Int))]) z) (fun z : Nat => (fun (k : Nat) => [.box (.p (eLang l)), .map (.one .i64) (mapO (rndL l (allL l r) k).1), .map (.one .i64) (mapO (rndL l (allL l r) k).2)]) z) (fun z : Nat => (fun (k : Nat) => (k ≤ l.Next.length)) z) (fun z : Nat => (fun (k : Nat) => l.Next.length - k) z) 0 ?_ ?_ ?_))))))))
      ·show (0 ≤ l.Next.length)
       ·omega
      ·intro A_ W_ hS
       replace hS := q_a (d := vint .i64 0) 39 (vint .i64 ((0 : Nat) : Int)) (eqD_int (by omega)) hS
       replace hS := sl_obj (o := .map (.one .i64) (mapO (allL l r).1)) 1 (.map (.one .i64) (mapO (rndL l (allL l r) 0).1)) (by kernel_rfl) (congrArg (O.map (.one .i64)) (a₁ := (mapO (allL l r).1)) (a₂ := (mapO (rndL l (allL l r) 0).1)) (by rfl)) hS
       replace hS := sl_obj (o := .map (.one .i64) (mapO (allL l r).2)) 2 (.map (.one .i64) (mapO (rndL l (allL l r) 0).2)) (by kernel_rfl) (congrArg (O.map (.one .i64)) (a₁ := (mapO (allL l r).2)) (a₂ := (mapO (rndL l (allL l r) 0).2)) (by rfl)) hS
       exact q_w [0, 1, 2] [1, 3, 4, 33, 34, 37, 38, 39] hS
      ·intro z hz
       revert z; intro k hz
       have hz : (k ≤ l.Next.length) := hz
       have hi2_0 := hz
       have hrow := f4 k
       refine tr_seq (q_t [1, 3, 4, 33, 34, 37, 38, 39, 40] [.ref 0 [], .own 1, .own 2, vint .i64 (l.Accept.length : Int), vint .i64 (r : Int), .p ((eL (eL eI 1 0) 1 []) l.Next), vint .i64 (l.Next.length : Int), vint .i64 (k : Int), vbool (decide ((k : Int) < (l.Next.length : Int)))] [.box (.p (eLang l)), .map (.one .i64) (mapO (rndL l (allL l r) k).1), .map (.one .i64) (mapO (rndL l (allL l r) k).2)] (tr_then (tr_seq (q_e ((k : Int) < (l.Next.length : Int)) (fun hc4 => ?_) (fun hc4 => ?_)))))
       ·refine tr_skip (tr_then (tr_seq (tr_block (tr_seq (q_l [(0 : Int) ≤ (k : Int), (k : Int) < (l.Next.length : Int)] [1, 3, 4, 7, 8, 33, 34, 37, 38, 39] [.ref 0 [], .own 1, .own 2, vint .i64 (k : Int), .p ((eL eI 1 0) (l.Next.getD k [])), vint .i64 (l.Accept.length : Int), vint .i64 (r : Int), .p ((eL (eL eI 1 0) 1 []) l.Next), vint .i64 (l.Next.length : Int), vint .i64 (k : Int)] (al (by omega) (al (by omega) (trivial))) (tr_then (tr_seq (q_m [1, 3, 4, 7, 33, 34, 37, 38, 39, 44, 45, 46] [.ref 0 [], .own 1, .own 2, vint .i64 (k : Int), vint .i64 (l.Accept.length : Int), vint .i64 (r : Int), .p ((eL (eL eI 1 0) 1 []) l.Next), vint .i64 (l.Next.length : Int), vint .i64 (k : Int), .p ((eL eI 1 0) (l.Next.getD k [])), vint .i64 (((l.Next.getD k []).length : Nat) : Int), vint .i64 0] (tr_then (tr_block (tr_loop (α := Nat) (fun z : Nat => (fun (c : Nat) => [(1, none, .ref 0 []), (3, none, .own 1), (4, none, .own 2), (7, none, vint .i64 (k : Int)), (33, none, vint .i64 (l.Accept.length : Int)), (34, none, vint .i64 (r : Int)), (37, none, .p ((eL (eL eI 1 0) 1 []) l.Next)), (38, none, vint .i64 (l.Next.length : Int)), (39, none, vint .i64 (k : Int)), (44, none, .p ((eL eI 1 0) (l.Next.getD k []))), (45, none, vint .i64 (((l.Next.getD k []).length : Nat) : Int)), (46, none, vint .i64 (c : Int))]) z) (fun z : Nat => (fun (c : Nat) => [.box (.p (eLang l)), .map (.one .i64) (mapO (rowLv l k (rndL l (allL l r) k) c).1), .map (.one .i64) (mapO (rowLv l k (rndL l (allL l r) k) c).2)]) z) (fun z : Nat => (fun (c : Nat) => (c ≤ (l.Next.getD k []).length)) z) (fun z : Nat => (fun (c : Nat) => (l.Next.getD k []).length - c) z) 0 ?_ ?_ ?_)))))))))))
        ·show (0 ≤ (l.Next.getD k []).length)
         ·omega
        ·intro A_ W_ hS
         replace hS := q_a (d := vint .i64 0) 46 (vint .i64 ((0 : Nat) : Int)) (eqD_int (by omega)) hS
         replace hS := sl_obj (o := .map (.one .i64) (mapO (rndL l (allL l r) k).1)) 1 (.map (.one .i64) (mapO (rowLv l k (rndL l (allL l r) k) 0).1)) (by kernel_rfl) (congrArg (O.map (.one .i64)) (a₁ := (mapO (rndL l (allL l r) k).1)) (a₂ := (mapO (rowLv l k (rndL l (allL l r) k) 0).1)) (by rfl)) hS
         replace hS := sl_obj (o := .map (.one .i64) (mapO (rndL l (allL l r) k).2)) 2 (.map (.one .i64) (mapO (rowLv l k (rndL l (allL l r) k) 0).2)) (by kernel_rfl) (congrArg (O.map (.one .i64)) (a₁ := (mapO (rndL l (allL l r) k).2)) (a₂ := (mapO (rowLv l k (rndL l (allL l r) k) 0).2)) (by rfl)) hS
         exact q_w [0, 1, 2] [1, 3, 4, 7, 33, 34, 37, 38, 39, 44, 45, 46] hS
        ·intro z hz
         revert z; intro c hz
         have hz : (c ≤ (l.Next.getD k []).length) := hz
         have hi3_0 := hz
         have hw := (hrow (by omega)).1
         have hr2 := (hrow (by omega)).2 c
         have ht : toL l k c = (l.Next.getD k []).getD c 0 := rfl
         refine tr_seq (q_t [1, 3, 4, 7, 33, 34, 37, 38, 39, 44, 45, 46, 47] [.ref 0 [], .own 1, .own 2, vint .i64 (k : Int), vint .i64 (l.Accept.length : Int), vint .i64 (r : Int), .p ((eL (eL eI 1 0) 1 []) l.Next), vint .i64 (l.Next.length : Int), vint .i64 (k : Int), .p ((eL eI 1 0) (l.Next.getD k [])), vint .i64 (((l.Next.getD k []).length : Nat) : Int), vint .i64 (c : Int), vbool (decide ((c : Int) < (((l.Next.getD k []).length : Nat) : Int)))] [.box (.p (eLang l)), .map (.one .i64) (mapO (rowLv l k (rndL l (allL l r) k) c).1), .map (.one .i64) (mapO (rowLv l k (rndL l (allL l r) k) c).2)] (tr_then (tr_seq (q_e ((c : Int) < (((l.Next.getD k []).length : Nat) : Int)) (fun hc5 => ?_) (fun hc5 => ?_)))))
         ·refine tr_skip (tr_then (tr_seq (tr_block (tr_seq (q_k [(0 : Int) ≤ (c : Int), (c : Int) < ((l.Next.getD k []).length : Int), ((l.Next.getD k []).getD c 0) = (toL l k c)] [1, 3, 4, 7, 10, 33, 34, 37, 38, 39, 44, 45, 46] [.ref 0 [], .own 1, .own 2, vint .i64 (k : Int), vint .i64 (toL l k c), vint .i64 (l.Accept.length : Int), vint .i64 (r : Int), .p ((eL (eL eI 1 0) 1 []) l.Next), vint .i64 (l.Next.length : Int), vint .i64 (k : Int), .p ((eL eI 1 0) (l.Next.getD k [])), vint .i64 (((l.Next.getD k []).length : Nat) : Int), vint .i64 (c : Int)] [(2, vint .i64 (toL l k c))] [] (al (by omega) (al (by omega) (al (by omega) (trivial)))) (tr_then (tr_seq (q_m [1, 3, 4, 7, 10, 33, 34, 37, 38, 39, 44, 45, 46, 51] [.ref 0 [], .own 1, .own 2, vint .i64 (k : Int), vint .i64 (toL l k c), vint .i64 (l.Accept.length : Int), vint .i64 (r : Int), .p ((eL (eL eI 1 0) 1 []) l.Next), vint .i64 (l.Next.length : Int), vint .i64 (k : Int), .p ((eL eI 1 0) (l.Next.getD k [])), vint .i64 (((l.Next.getD k []).length : Nat) : Int), vint .i64 (c : Int), vbool (decide (0 ≤ (toL l k c)))] (tr_then (q_e (0 ≤ (toL l k c)) (fun hc6 => ?_) (fun hc6 => ?_)))))))))))
          ·refine tr_seq (q_r [eqD (.p (((mapO (rowLv l k (rndL l (allL l r) k) c).1) ([(toL l k c)] : List Int)).getD (.v (.bool false)))) (vbool (gb (rowLv l k (rndL l (allL l r) k) c).1 (toL l k c).toNat)), (!(gb (rowLv l k (rndL l (allL l r) k) c).1 (toL l k c).toNat)) = true → (!(gb (rowLv l k (rndL l (allL l r) k) c).1 (toL l k c).toNat)) = true, (!(gb (rowLv l k (rndL l (allL l r) k) c).1 (toL l k c).toNat)) = true → (!(gb (rowLv l k (rndL l (allL l r) k) c).1 (toL l k c).toNat)) = true, (!(gb (rowLv l k (rndL l (allL l r) k) c).1 (toL l k c).toNat)) = true → (eqD (.p (((mapO (rowLv l k (rndL l (allL l r) k) c).1) ([(k : Int)] : List Int)).getD (.v (.bool false)))) (vbool (gb (rowLv l k (rndL l (allL l r) k) c).1 k))), (!(gb (rowLv l k (rndL l (allL l r) k) c).1 (toL l k c).toNat)) = true → (!(gb (rowLv l k (rndL l (allL l r) k) c).1 (toL l k c).toNat)) = true] [1, 3, 4, 7, 10, 33, 34, 37, 38, 39, 44, 45, 46] [.ref 0 [], .own 1, .own 2, vint .i64 (k : Int), vint .i64 (toL l k c), vint .i64 (l.Accept.length : Int), vint .i64 (r : Int), .p ((eL (eL eI 1 0) 1 []) l.Next), vint .i64 (l.Next.length : Int), vint .i64 (k : Int), .p ((eL eI 1 0) (l.Next.getD k [])), vint .i64 (((l.Next.getD k []).length : Nat) : Int), vint .i64 (c : Int)] [.box (.p (eLang l)), .map (.one .i64) (setMap (mapO (rowLv l k (rndL l (allL l r) k) c).1) ([(toL l k c)] : List Int) (.v (.bool ((gb (rowLv l k (rndL l (allL l r) k) c).1 (toL l k c).toNat) || (gb (rowLv l k (rndL l (allL l r) k) c).1 k))))), .map (.one .i64) (mapO (rowLv l k (rndL l (allL l r) k) c).2)] [(4, vbool (gb (rowLv l k (rndL l (allL l r) k) c).1 (toL l k c).toNat)), (8, vbool (gb (rowLv l k (rndL l (allL l r) k) c).1 k))] [] (al (mapO_get _ _ hc6) (al id (al id (al (by intro _; exact mapO_get _ _ (by omega)) (al id (trivial)))))) (tr_then (q_r [eqD (.p (((mapO (rowLv l k (rndL l (allL l r) k) c).2) ([(k : Int)] : List Int)).getD (.v (.bool false)))) (vbool (gb (rowLv l k (rndL l (allL l r) k) c).2 k)), (!(gb (rowLv l k (rndL l (allL l r) k) c).2 k)) = true → (!(gb (rowLv l k (rndL l (allL l r) k) c).2 k)) = true, (!(gb (rowLv l k (rndL l (allL l r) k) c).2 k)) = true → (!(gb (rowLv l k (rndL l (allL l r) k) c).2 k)) = true, (!(gb (rowLv l k (rndL l (allL l r) k) c).2 k)) = true → (eqD (.p (((mapO (rowLv l k (rndL l (allL l r) k) c).2) ([(toL l k c)] : List Int)).getD (.v (.bool false)))) (vbool (gb (rowLv l k (rndL l (allL l r) k) c).2 (toL l k c).toNat))), (!(gb (rowLv l k (rndL l (allL l r) k) c).2 k)) = true → (!(gb (rowLv l k (rndL l (allL l r) k) c).2 k)) = true] [1, 3, 4, 7, 33, 34, 37, 38, 39, 44, 45, 46] [.ref 0 [], .own 1, .own 2, vint .i64 (k : Int), vint .i64 (l.Accept.length : Int), vint .i64 (r : Int), .p ((eL (eL eI 1 0) 1 []) l.Next), vint .i64 (l.Next.length : Int), vint .i64 (k : Int), .p ((eL eI 1 0) (l.Next.getD k [])), vint .i64 (((l.Next.getD k []).length : Nat) : Int), vint .i64 (c : Int)] [.box (.p (eLang l)), .map (.one .i64) (setMap (mapO (rowLv l k (rndL l (allL l r) k) c).1) ([(toL l k c)] : List Int) (.v (.bool ((gb (rowLv l k (rndL l (allL l r) k) c).1 (toL l k c).toNat) || (gb (rowLv l k (rndL l (allL l r) k) c).1 k))))), .map (.one .i64) (setMap (mapO (rowLv l k (rndL l (allL l r) k) c).2) ([(k : Int)] : List Int) (.v (.bool ((gb (rowLv l k (rndL l (allL l r) k) c).2 k) || (gb (rowLv l k (rndL l (allL l r) k) c).2 (toL l k c).toNat)))))] [(4, vbool (gb (rowLv l k (rndL l (allL l r) k) c).2 k)), (8, vbool (gb (rowLv l k (rndL l (allL l r) k) c).2 (toL l k c).toNat))] [] (al (mapO_get _ _ (by omega)) (al id (al id (al (by intro _; exact mapO_get _ _ hc6) (al id (trivial)))))) (in_n (tr_then (q_k [(IntKind.wrap .i64 ((c : Int) + 1)) = (((c + 1) : Nat) : Int)] [1, 3, 4, 7, 33, 34, 37, 38, 39, 44, 45, 46] [.ref 0 [], .own 1, .own 2, vint .i64 (k : Int), vint .i64 (l.Accept.length : Int), vint .i64 (r : Int), .p ((eL (eL eI 1 0) 1 []) l.Next), vint .i64 (l.Next.length : Int), vint .i64 (k : Int), .p ((eL eI 1 0) (l.Next.getD k [])), vint .i64 (((l.Next.getD k []).length : Nat) : Int), vint .i64 (((c + 1) : Nat) : Int)] [(0, vint .i64 (((c + 1) : Nat) : Int))] [] (al (wr64 (by omega) (by omega) (by omega)) (trivial)) (lp_end (c + 1) ?_ ?_ ?_)))))))
           ·show ((c + 1) ≤ (l.Next.getD k []).length)
            ·omega
           ·show (l.Next.getD k []).length - (c + 1) < (l.Next.getD k []).length - c
            omega
           ·intro A_ W_ hS
            replace hS := sl_obj (o := .map (.one .i64) (setMap (mapO (rowLv l k (rndL l (allL l r) k) c).1) ([(toL l k c)] : List Int) (.v (.bool ((gb (rowLv l k (rndL l (allL l r) k) c).1 (toL l k c).toNat) || (gb (rowLv l k (rndL l (allL l r) k) c).1 k)))))) 1 (.map (.one .i64) (mapO (rowLv l k (rndL l (allL l r) k) (c + 1)).1)) (by kernel_rfl) (congrArg (O.map (.one .i64)) (a₁ := (setMap (mapO (rowLv l k (rndL l (allL l r) k) c).1) ([(toL l k c)] : List Int) (.v (.bool ((gb (rowLv l k (rndL l (allL l r) k) c).1 (toL l k c).toNat) || (gb (rowLv l k (rndL l (allL l r) k) c).1 k)))))) (a₂ := (mapO (rowLv l k (rndL l (allL l r) k) (c + 1)).1)) (by first | (rw [rowLv, cellL, if_pos hc6]; exact mapO_put _ _ _ (by omega)) | (rw [rowLv, cellL, if_neg hc6]))) hS
            replace hS := sl_obj (o := .map (.one .i64) (setMap (mapO (rowLv l k (rndL l (allL l r) k) c).2) ([(k : Int)] : List Int) (.v (.bool ((gb (rowLv l k (rndL l (allL l r) k) c).2 k) || (gb (rowLv l k (rndL l (allL l r) k) c).2 (toL l k c).toNat)))))) 2 (.map (.one .i64) (mapO (rowLv l k (rndL l (allL l r) k) (c + 1)).2)) (by kernel_rfl) (congrArg (O.map (.one .i64)) (a₁ := (setMap (mapO (rowLv l k (rndL l (allL l r) k) c).2) ([(k : Int)] : List Int) (.v (.bool ((gb (rowLv l k (rndL l (allL l r) k) c).2 k) || (gb (rowLv l k (rndL l (allL l r) k) c).2 (toL l k c).toNat)))))) (a₂ := (mapO (rowLv l k (rndL l (allL l r) k) (c + 1)).2)) (by first | (rw [rowLv, cellL, if_pos hc6]; exact mapO_put _ _ _ (by omega)) | (rw [rowLv, cellL, if_neg hc6]))) hS
            exact q_w [0, 1, 2] [1, 3, 4, 7, 33, 34, 37, 38, 39, 44, 45, 46] hS
          ·refine tr_skip (in_n (tr_then (q_k [(IntKind.wrap .i64 ((c : Int) + 1)) = (((c + 1) : Nat) : Int)] [1, 3, 4, 7, 33, 34, 37, 38, 39, 44, 45, 46] [.ref 0 [], .own 1, .own 2, vint .i64 (k : Int), vint .i64 (l.Accept.length : Int), vint .i64 (r : Int), .p ((eL (eL eI 1 0) 1 []) l.Next), vint .i64 (l.Next.length : Int), vint .i64 (k : Int), .p ((eL eI 1 0) (l.Next.getD k [])), vint .i64 (((l.Next.getD k []).length : Nat) : Int), vint .i64 (((c + 1) : Nat) : Int)] [(0, vint .i64 (((c + 1) : Nat) : Int))] [] (al (wr64 (by omega) (by omega) (by omega)) (trivial)) (lp_end (c + 1) ?_ ?_ ?_))))
           ·show ((c + 1) ≤ (l.Next.getD k []).length)
            ·omega
           ·show (l.Next.getD k []).length - (c + 1) < (l.Next.getD k []).length - c
            omega
           ·intro A_ W_ hS
            replace hS := sl_obj (o := .map (.one .i64) (mapO (rowLv l k (rndL l (allL l r) k) c).1)) 1 (.map (.one .i64) (mapO (rowLv l k (rndL l (allL l r) k) (c + 1)).1)) (by kernel_rfl) (congrArg (O.map (.one .i64)) (a₁ := (mapO (rowLv l k (rndL l (allL l r) k) c).1)) (a₂ := (mapO (rowLv l k (rndL l (allL l r) k) (c + 1)).1)) (by first | (rw [rowLv, cellL, if_pos hc6]; exact mapO_put _ _ _ (by omega)) | (rw [rowLv, cellL, if_neg hc6]))) hS
            replace hS := sl_obj (o := .map (.one .i64) (mapO (rowLv l k (rndL l (allL l r) k) c).2)) 2 (.map (.one .i64) (mapO (rowLv l k (rndL l (allL l r) k) (c + 1)).2)) (by kernel_rfl) (congrArg (O.map (.one .i64)) (a₁ := (mapO (rowLv l k (rndL l (allL l r) k) c).2)) (a₂ := (mapO (rowLv l k (rndL l (allL l r) k) (c + 1)).2)) (by first | (rw [rowLv, cellL, if_pos hc6]; exact mapO_put _ _ _ (by omega)) | (rw [rowLv, cellL, if_neg hc6]))) hS
            exact q_w [0, 1, 2] [1, 3, 4, 7, 33, 34, 37, 38, 39, 44, 45, 46] hS
         ·refine tr_exit (th_e (th_e (in_hit (in_n (tr_then (q_k [(IntKind.wrap .i64 ((k : Int) + 1)) = (((k + 1) : Nat) : Int)] [1, 3, 4, 33, 34, 37, 38, 39] [.ref 0 [], .own 1, .own 2, vint .i64 (l.Accept.length : Int), vint .i64 (r : Int), .p ((eL (eL eI 1 0) 1 []) l.Next), vint .i64 (l.Next.length : Int), vint .i64 (((k + 1) : Nat) : Int)] [(0, vint .i64 (((k + 1) : Nat) : Int))] [] (al (wr64 (by omega) (by omega) (by omega)) (trivial)) (lp_end (k + 1) ?_ ?_ ?_)))))))
          ·show ((k + 1) ≤ l.Next.length)
           ·omega
          ·show l.Next.length - (k + 1) < l.Next.length - k
           omega
          ·intro A_ W_ hS
           replace hS := sl_obj (o := .map (.one .i64) (mapO (rowLv l k (rndL l (allL l r) k) c).1)) 1 (.map (.one .i64) (mapO (rndL l (allL l r) (k + 1)).1)) (by kernel_rfl) (congrArg (O.map (.one .i64)) (a₁ := (mapO (rowLv l k (rndL l (allL l r) k) c).1)) (a₂ := (mapO (rndL l (allL l r) (k + 1)).1)) (by rw [show c = (l.Next.getD k []).length by omega]; rfl)) hS
           replace hS := sl_obj (o := .map (.one .i64) (mapO (rowLv l k (rndL l (allL l r) k) c).2)) 2 (.map (.one .i64) (mapO (rndL l (allL l r) (k + 1)).2)) (by kernel_rfl) (congrArg (O.map (.one .i64)) (a₁ := (mapO (rowLv l k (rndL l (allL l r) k) c).2)) (a₂ := (mapO (rndL l (allL l r) (k + 1)).2)) (by rw [show c = (l.Next.getD k []).length by omega]; rfl)) hS
           exact q_w [0, 1, 2] [1, 3, 4, 33, 34, 37, 38, 39] hS
       ·refine tr_exit (th_e (th_e (in_hit (in_n (tr_then (q_k [(IntKind.wrap .i64 ((r : Int) + 1)) = (((r + 1) : Nat) : Int)] [1, 3, 4, 33, 34] [.ref 0 [], .own 1, .own 2, vint .i64 (l.Accept.length : Int), vint .i64 (((r + 1) : Nat) : Int)] [(0, vint .i64 (((r + 1) : Nat) : Int))] [] (al (wr64 (by omega) (by omega) (by omega)) (trivial)) (lp_end (r + 1) ?_ ?_ ?_)))))))
        ·show ((r + 1) ≤ l.Accept.length)
         ·omega
        ·show l.Accept.length - (r + 1) < l.Accept.length - r
         omega
        ·intro A_ W_ hS
         replace hS := sl_obj (o := .map (.one .i64) (mapO (rndL l (allL l r) k).1)) 1 (.map (.one .i64) (mapO (allL l (r + 1)).1)) (by kernel_rfl) (congrArg (O.map (.one .i64)) (a₁ := (mapO (rndL l (allL l r) k).1)) (a₂ := (mapO (allL l (r + 1)).1)) (by rw [show k = l.Next.length by omega]; rfl)) hS
         replace hS := sl_obj (o := .map (.one .i64) (mapO (rndL l (allL l r) k).2)) 2 (.map (.one .i64) (mapO (allL l (r + 1)).2)) (by kernel_rfl) (congrArg (O.map (.one .i64)) (a₁ := (mapO (rndL l (allL l r) k).2)) (a₂ := (mapO (allL l (r + 1)).2)) (by rw [show k = l.Next.length by omega]; rfl)) hS
         exact q_w [0, 1, 2] [1, 3, 4, 33, 34] hS
     ·refine tr_exit (th_e (th_e (in_hit (tr_then (tr_seq (q_s [(0 : Int) ≤ (l.Accept.length : Int), ((l.Accept.length : Int) : Int) ≤ (l.Accept.length : Int), (1 : Int) * (l.Accept.length : Int) ≤ 140737488355328, ((l.Accept.length : Int) : Int) ≤ 9223372036854775807] [3, 4, 11] [.own 1, .own 2, .own 3] [.box (.p (eLang l)), .map (.one .i64) (mapO (allL l r).1), .map (.one .i64) (mapO (allL l r).2), .arr 4 1 l.Accept.length (fun _ => vbool false)] (al (by omega) (al (by omega) (al (by omega) (al (by omega) (trivial))))) (nm_pre (E' := [(3, none, .own 1), (4, none, .own 2), (11, none, .own 3)]) (H' := [.box (.p (eLang l)), .map (.one .i64) (mapO (allL l r).1), .map (.one .i64) (mapO (allL l r).2), oL 4 eB 1 false (List.replicate l.Accept.length false)]) (fun _ _ => sl_arr (n := l.Accept.length) (n' := (List.replicate l.Accept.length false).length) (f := fun _ => vbool false) 3 (fun i => .p (eB ((List.replicate l.Accept.length false).getD i false))) (by kernel_rfl) (by simp) (by exact makeN (e := eB) (d := false))) (tr_then (tr_seq (tr_seq (q_m [3, 4, 11, 80, 81] [.own 1, .own 2, .own 3, vint .i64 (((List.replicate l.Accept.length false).length : Nat) : Int), vint .i64 0] (tr_then (tr_block (tr_loop (α := Nat) (fun z : Nat => (fun (q : Nat) => [(3, none, .own 1), (4, none, .own 2), (11, none, .own 3), (80, none, vint .i64 (((List.replicate l.Accept.length false).length : Nat) : Int)), (81, none, vint .i64 (q : Int))]) z) (fun z : Nat => (fun (q : Nat) => [.box (.p (eLang l)), .map (.one .i64) (mapO (allL l r).1), .map (.one .i64) (mapO (allL l r).2), oL 4 eB 1 false (outL l (allL l r) q)]) z) (fun z : Nat => (fun (q : Nat) => (q ≤ l.Accept.length)) z) (fun z : Nat => (fun (q : Nat) => l.Accept.length - q) z) 0 ?_ ?_ ?_))))))))))))))
      ·show (0 ≤ l.Accept.length)
       ·omega
      ·intro A_ W_ hS
       replace hS := q_a (d := vint .i64 0) 81 (vint .i64 ((0 : Nat) : Int)) (eqD_int (by omega)) hS
       replace hS := sl_arr (e := 4) (sz := 1) (n := (List.replicate l.Accept.length false).length) (n' := (outL l (allL l r) 0).length) (f := (fun i => .p (eB ((List.replicate l.Accept.length false).getD i false)))) 3 (fun i => .p (eB ((outL l (allL l r) 0).getD i false))) (by kernel_rfl) (by rw [outL_len]; simp) (by intro j hj; rw [outL_0 l (allL l r)]) hS
       exact q_v [∀ i, i < (outL l (allL l r) 0).length → D.p (eB ((outL l (allL l r) 0).getD i false)) = .p (eB ((outL l (allL l r) 0).getD i false))] [0, 1, 2, 3] [3, 4, 11, 80, 81] (al (fun _ _ => rfl) trivial) hS
      ·intro z hz
       revert z; intro q hz
       have hz : (q ≤ l.Accept.length) := hz
       have hi4_0 := hz
       have hol := outL_len l (allL l r) q
       have hrep : (List.replicate l.Accept.length false).length = l.Accept.length := List.length_replicate
       refine tr_seq (q_t [3, 4, 11, 80, 81, 82] [.own 1, .own 2, .own 3, vint .i64 (((List.replicate l.Accept.length false).length : Nat) : Int), vint .i64 (q : Int), vbool (decide ((q : Int) < (((List.replicate l.Accept.length false).length : Nat) : Int)))] [.box (.p (eLang l)), .map (.one .i64) (mapO (allL l r).1), .map (.one .i64) (mapO (allL l r).2), oL 4 eB 1 false (outL l (allL l r) q)] (tr_then (tr_seq (q_e ((q : Int) < (((List.replicate l.Accept.length false).length : Nat) : Int)) (fun hc7 => ?_) (fun hc7 => ?_)))))
       ·refine tr_skip (tr_then (tr_seq (tr_block (tr_seq (q_m [3, 4, 11, 12, 80, 81] [.own 1, .own 2, .own 3, vint .i64 (q : Int), vint .i64 (((List.replicate l.Accept.length false).length : Nat) : Int), vint .i64 (q : Int)] (tr_then (q_r [eqD (.p (((mapO (allL l r).1) ([(q : Int)] : List Int)).getD (.v (.bool false)))) (vbool (gb (allL l r).1 q)), (gb (allL l r).1 q) = true → (gb (allL l r).1 q) = true, (gb (allL l r).1 q) = true → (gb (allL l r).1 q) = true, (gb (allL l r).1 q) = true → (eqD (.p (((mapO (allL l r).2) ([(q : Int)] : List Int)).getD (.v (.bool false)))) (vbool (gb (allL l r).2 q))), (gb (allL l r).1 q) = true → (gb (allL l r).1 q) = true, (0 : Int) ≤ (q : Int), (q : Int) < ((outL l (allL l r) q).length : Int), q < (outL l (allL l r) q).length] [3, 4, 11, 80, 81] [.own 1, .own 2, .own 3, vint .i64 (((List.replicate l.Accept.length false).length : Nat) : Int), vint .i64 (q : Int)] [.box (.p (eLang l)), .map (.one .i64) (mapO (allL l r).1), .map (.one .i64) (mapO (allL l r).2), .arr 4 1 ((outL l (allL l r) q).length) (upd (fun i => .p (eB ((outL l (allL l r) q).getD i false))) q (vbool ((gb (allL l r).1 q) && (gb (allL l r).2 q))))] [(4, vbool (gb (allL l r).1 q)), (8, vbool (gb (allL l r).2 q))] [] (al (mapO_get _ _ (by omega)) (al id (al id (al (by intro _; exact mapO_get _ _ (by omega)) (al id (al (by omega) (al (by omega) (al (by omega) (trivial))))))))) (nm_pre (E' := [(3, none, .own 1), (4, none, .own 2), (11, none, .own 3), (80, none, vint .i64 (((List.replicate l.Accept.length false).length : Nat) : Int)), (81, none, vint .i64 (q : Int))]) (H' := [.box (.p (eLang l)), .map (.one .i64) (mapO (allL l r).1), .map (.one .i64) (mapO (allL l r).2), oL 4 eB 1 false ((outL l (allL l r) q).set q ((gb (allL l r).1 q) && (gb (allL l r).2 q)))]) (fun _ _ => sl_arr (n := ((outL l (allL l r) q).length)) (n' := ((outL l (allL l r) q).set q ((gb (allL l r).1 q) && (gb (allL l r).2 q))).length) (f := upd (fun i => .p (eB ((outL l (allL l r) q).getD i false))) q (vbool ((gb (allL l r).1 q) && (gb (allL l r).2 q)))) 3 (fun i => .p (eB (((outL l (allL l r) q).set q ((gb (allL l r).1 q) && (gb (allL l r).2 q))).getD i false))) (by kernel_rfl) (by simp) (by exact setN)) (in_n (tr_then (q_k [(IntKind.wrap .i64 ((q : Int) + 1)) = (((q + 1) : Nat) : Int)] [3, 4, 11, 80, 81] [.own 1, .own 2, .own 3, vint .i64 (((List.replicate l.Accept.length false).length : Nat) : Int), vint .i64 (((q + 1) : Nat) : Int)] [(0, vint .i64 (((q + 1) : Nat) : Int))] [] (al (wr64 (by omega) (by omega) (by omega)) (trivial)) (lp_end (q + 1) ?_ ?_ ?_))))))))))))
        ·show ((q + 1) ≤ l.Accept.length)
         ·omega
        ·show l.Accept.length - (q + 1) < l.Accept.length - q
         omega
        ·intro A_ W_ hS
         replace hS := sl_arr (e := 4) (sz := 1) (n := ((outL l (allL l r) q).set q ((gb (allL l r).1 q) && (gb (allL l r).2 q))).length) (n' := (outL l (allL l r) (q + 1)).length) (f := (fun i => .p (eB (((outL l (allL l r) q).set q ((gb (allL l r).1 q) && (gb (allL l r).2 q))).getD i false)))) 3 (fun i => .p (eB ((outL l (allL l r) (q + 1)).getD i false))) (by kernel_rfl) (by rw [outL_s _ _ (by omega)]) (by intro j hj; rw [outL_s _ _ (by omega)]) hS
         exact q_v [∀ i, i < (outL l (allL l r) (q + 1)).length → D.p (eB ((outL l (allL l r) (q + 1)).getD i false)) = .p (eB ((outL l (allL l r) (q + 1)).getD i false))] [0, 1, 2, 3] [3, 4, 11, 80, 81] (al (fun _ _ => rfl) trivial) hS
       ·refine tr_exit (th_e (th_e (in_hit (tr_then (tr_seq (q_m [2] [.own 3] (tr_then (tr_pre (E' := [(2, none, .own 0)]) (H' := [oL 4 eB 1 false (outL l (allL l r) q)]) (fun A_ W_ hS => sl_weak (vc := [∀ i, i < (outL l (allL l r) q).length → D.p (eB ((outL l (allL l r) q).getD i false)) = .p (eB ((outL l (allL l r) q).getD i false))]) [3] [2] (by kernel_rfl) (al (fun _ _ => rfl) trivial) hS) (tr_pre (E' := [(2, none, .p ((eL eB 1 false) (outL l (allL l r) q)))]) (H' := [.dead]) (fun _ _ => sl_freeze (vc := [∀ j, j < (outL l (allL l r) q).length → D.p (eB ((outL l (allL l r) q).getD j false)) = .p ((fun j => eB ((outL l (allL l r) q).getD j false)) j)]) 0 (fun j => eB ((outL l (allL l r) q).getD j false)) (by kernel_rfl) (al (fun _ _ => rfl) trivial)) (q_i (d := .p ((eL eB 1 false) (outL l (allL l r) q))) 2 (.p ((eL eB 1 false) (liveS l))) ?_ ?_))))))))))
        ·refine imp_eq (congrArg (fun x => D.p ((eL eB 1 false) x)) (a₁ := (outL l (allL l r) q)) (a₂ := (liveS l)) ?_)
         rw [liveS, if_neg hc1, liveL, show q = l.Accept.length by omega, show r = l.Accept.length by omega]
        exact q_z [.p ((eL eB 1 false) (liveS l))] (fun _ _ h => h)
end Go.Proofs.Ytjnjmnfacaakfaa
namespace Go.Proofs.Ytjnjmnfacaakfaa
open Go.Eng
def put1 (l : Lang) (b : Bool) (k c : Nat) (o : List Bool) : List Bool := if (b && o.getD (toL l k c).toNat false) = true then o.set k true else o
def put2 (l : Lang) (b : Bool) (k c : Nat) (o : List Bool) : List Bool := if ((!b) && o.getD k false) = true then o.set (toL l k c).toNat true else o
def cellB (l : Lang) (b : Bool) (k c : Nat) (o : List Bool) : List Bool := if toL l k c < 0 then o else put2 l b k c (put1 l b k c o)
def rowB (l : Lang) (b : Bool) (k : Nat) (o : List Bool) : Nat → List Bool
 | 0 => o
 | c + 1 => cellB l b k c (rowB l b k o c)
def rndB (l : Lang) (b : Bool) (o : List Bool) : Nat → List Bool
 | 0 => o
 | k + 1 => rowB l b k (rndB l b o k) 37
def allB (l : Lang) (b : Bool) (o : List Bool) : Nat → List Bool
 | 0 => o
 | r + 1 => rndB l b (allB l b o r) o.length
section
variable {l : Lang} {b : Bool}
theorem put1_len {k c : Nat} {o : List Bool} : (put1 l b k c o).length = o.length := by unfold put1; split <;> simp
theorem put2_len {k c : Nat} {o : List Bool} : (put2 l b k c o).length = o.length := by unfold put2; split <;> simp
theorem cellB_len {k c : Nat} {o : List Bool} : (cellB l b k c o).length = o.length := by unfold cellB; split <;> simp [put1_len, put2_len]
theorem rowB_len {k : Nat} {o : List Bool} : ∀ c, (rowB l b k o c).length = o.length
 | 0 => rfl
 | c + 1 => by rw [rowB, cellB_len, rowB_len c]
theorem rndB_len {o : List Bool} : ∀ k, (rndB l b o k).length = o.length
 | 0 => rfl
 | k + 1 => by rw [rndB, rowB_len, rndB_len k]
theorem allB_len {o : List Bool} : ∀ r, (allB l b o r).length = o.length
 | 0 => rfl
 | r + 1 => by rw [allB, rndB_len, allB_len r]
end
theorem spread_ok (l : Lang) (mk : List Bool) (b : Bool) (hok : check l = 0) (hlen : mk.length = l.Accept.length) : Pure Try.prog 45 [eLang l, (eL eB 1 false) mk, .v (.bool b)] (.p ((eL eB 1 false) (allB l b mk mk.length))) := by
 obtain ⟨f1, f2, f3, f4⟩ := check_facts hok
 refine pure_of (fn := Try.f45) Try.func45 rfl rfl fun F_ W0_ => ?_
 refine tr_seq (q_t [1, 2, 3] [.p ((eL eB 1 false) mk), vbool b, .ref 0 []] [.box (.p (eLang l))] (tr_then (tr_seq (q_s [(0 + mk.length) * 1 ≤ 140737488355328] [2, 3, 7] [vbool b, .ref 0 [], .own 2] [.box (.p (eLang l)), .dead, .arr 4 1 (0 + mk.length) (appF (fun j => ([] : List D).getD j default) 0 (fun j => .p (eB (mk.getD j false))))] (al (by omega) (trivial)) (nm_pre (E' := [(2, none, vbool b), (3, none, .ref 0 []), (7, none, .own 2)]) (H' := [.box (.p (eLang l)), .dead, oL 4 eB 1 false mk]) (fun _ _ => sl_arr (n := (0 + mk.length)) (n' := mk.length) (f := appF (fun j => ([] : List D).getD j default) 0 (fun j => .p (eB (mk.getD j false)))) 2 (fun i => .p (eB (mk.getD i false))) (by kernel_rfl) (by first | rfl | (simp; done) | (simp; omega)) (by exact app_of (by first | rfl | (simp; done) | (simp; omega)) (lit_getD (e := eB) (d := false) (l := [])))) (tr_then (tr_seq (tr_seq (q_m [2, 3, 7, 8] [vbool b, .ref 0 [], .own 2, vint .i64 0] (tr_then (tr_block (tr_loop (α := Nat × (List Bool)) (fun z : Nat × (List Bool) => (fun (r : Nat) (oa : List Bool) => [(2, none, vbool b), (3, none, .ref 0 []), (7, none, .own 2), (8, none, vint .i64 (r : Int))]) z.1 z.2) (fun z : Nat × (List Bool) => (fun (r : Nat) (oa : List Bool) => [.box (.p (eLang l)), .dead, oL 4 eB 1 false oa]) z.1 z.2) (fun z : Nat × (List Bool) => (fun (r : Nat) (oa : List Bool) => (r ≤ mk.length) ∧ (oa = allB l b mk r)) z.1 z.2) (fun z : Nat × (List Bool) => (fun (r : Nat) (oa : List Bool) => mk.length - r) z.1 z.2) (0, mk) ?_ ?_ ?_))))))))))))
 ·show (0 ≤ mk.length) ∧ (mk = allB l b mk 0)
  refine ⟨?_, ?_⟩
  ·omega
  ·rfl
 ·intro A_ W_ hS
  replace hS := q_a (d := vint .i64 0) 8 (vint .i64 ((0 : Nat) : Int)) (eqD_int (by omega)) hS
  exact q_v [∀ i, i < mk.length → D.p (eB (mk.getD i false)) = .p (eB (mk.getD i false))] [0, 1, 2] [2, 3, 7, 8] (al (fun _ _ => rfl) trivial) hS
 ·intro z hz
  obtain ⟨r, oa⟩ := z
  have hz : (r ≤ mk.length) ∧ (oa = allB l b mk r) := hz
  obtain ⟨hi0_0, hi0_1⟩ := hz
  have hla : oa.length = mk.length := by rw [hi0_1, allB_len]
  refine tr_seq (tr_seq (q_t [2, 3, 7, 8, 18] [vbool b, .ref 0 [], .own 2, vint .i64 (r : Int), vbool (decide ((r : Int) < (oa.length : Int)))] [.box (.p (eLang l)), .dead, oL 4 eB 1 false oa] (tr_then (q_e ((r : Int) < (oa.length : Int)) (fun hc1 => ?_) (fun hc1 => ?_)))))
  ·refine tr_skip (tr_then (tr_seq (tr_block (tr_seq (q_m [2, 3, 7, 8, 9] [vbool b, .ref 0 [], .own 2, vint .i64 (r : Int), vint .i64 0] (tr_then (tr_block (tr_loop (α := Nat × (List Bool)) (fun z : Nat × (List Bool) => (fun (k : Nat) (ob : List Bool) => [(2, none, vbool b), (3, none, .ref 0 []), (7, none, .own 2), (8, none, vint .i64 (r : Int)), (9, none, vint .i64 (k : Int))]) z.1 z.2) (fun z : Nat × (List Bool) => (fun (k : Nat) (ob : List Bool) => [.box (.p (eLang l)), .dead, oL 4 eB 1 false ob]) z.1 z.2) (fun z : Nat × (List Bool) => (fun (k : Nat) (ob : List Bool) => (k ≤ mk.length) ∧ (ob = rndB l b oa k)) z.1 z.2) (fun z : Nat × (List Bool) => (fun (k : Nat) (ob : List Bool) => mk.length - k) z.1 z.2) (0, oa) ?_ ?_ ?_))))))))
   ·show (0 ≤ mk.length) ∧ (oa = rndB l b oa 0)
    refine ⟨?_, ?_⟩
    ·omega
    ·rfl
   ·intro A_ W_ hS
    replace hS := q_a (d := vint .i64 0) 9 (vint .i64 ((0 : Nat) : Int)) (eqD_int (by omega)) hS
    exact q_v [∀ i, i < oa.length → D.p (eB (oa.getD i false)) = .p (eB (oa.getD i false))] [0, 1, 2] [2, 3, 7, 8, 9] (al (fun _ _ => rfl) trivial) hS
   ·intro z hz
    obtain ⟨k, ob⟩ := z
    have hz : (k ≤ mk.length) ∧ (ob = rndB l b oa k) := hz
    obtain ⟨hi1_0, hi1_1⟩ := hz
    have hlb : ob.length = mk.length := by rw [hi1_1, rndB_len, hla]
    have hrow := f4 k
    refine tr_seq (tr_seq (q_t [2, 3, 7, 8, 9, 24] [vbool b, .ref 0 [], .own 2, vint .i64 (r : Int), vint .i64 (k : Int), vbool (decide ((k : Int) < (ob.length : Int)))] [.box (.p (eLang l)), .dead, oL 4 eB 1 false ob] (tr_then (q_e ((k : Int) < (ob.length : Int)) (fun hc2 => ?_) (fun hc2 => ?_)))))
    ·refine tr_skip (tr_then (tr_seq (tr_block (tr_seq (q_m [2, 3, 7, 8, 9, 10] [vbool b, .ref 0 [], .own 2, vint .i64 (r : Int), vint .i64 (k : Int), vint .i64 0] (tr_then (tr_block (tr_loop (α := Nat × (List Bool)) (fun z : Nat × (List Bool) => (fun (c : Nat) (o : List Bool) => [(2, none, vbool b), (3, none, .ref 0 []), (7, none, .own 2), (8, none, vint .i64 (r : Int)), (9, none, vint .i64 (k : Int)), (10, none, vint .i64 (c : Int))]) z.1 z.2) (fun z : Nat × (List Bool) => (fun (c : Nat) (o : List Bool) => [.box (.p (eLang l)), .dead, oL 4 eB 1 false o]) z.1 z.2) (fun z : Nat × (List Bool) => (fun (c : Nat) (o : List Bool) => (c ≤ 37) ∧ (o = rowB l b k ob c)) z.1 z.2) (fun z : Nat × (List Bool) => (fun (c : Nat) (o : List Bool) => 37 - c) z.1 z.2) (0, ob) ?_ ?_ ?_))))))))
     ·show (0 ≤ 37) ∧ (ob = rowB l b k ob 0)
      refine ⟨?_, ?_⟩
      ·omega
      ·rfl
     ·intro A_ W_ hS
      replace hS := q_a (d := vint .i64 0) 10 (vint .i64 ((0 : Nat) : Int)) (eqD_int (by omega)) hS
      exact q_v [∀ i, i < ob.length → D.p (eB (ob.getD i false)) = .p (eB (ob.getD i false))] [0, 1, 2] [2, 3, 7, 8, 9, 10] (al (fun _ _ => rfl) trivial) hS
     ·intro z hz
      obtain ⟨c, o⟩ := z
      have hz : (c ≤ 37) ∧ (o = rowB l b k ob c) := hz
      obtain ⟨hi2_0, hi2_1⟩ := hz
      have hlo : o.length = mk.length := by rw [hi2_1, rowB_len, hlb]
      have hw := (hrow (by omega)).1
      have hr2 := (hrow (by omega)).2 c
      have ht : toL l k c = (l.Next.getD k []).getD c 0 := rfl
      refine tr_seq (tr_seq (q_t [2, 3, 7, 8, 9, 10, 28] [vbool b, .ref 0 [], .own 2, vint .i64 (r : Int), vint .i64 (k : Int), vint .i64 (c : Int), vbool (decide ((c : Int) < 37))] [.box (.p (eLang l)), .dead, oL 4 eB 1 false o] (tr_then (q_e ((c : Int) < 37) (fun hc3 => ?_) (fun hc3 => ?_)))))
      ·refine tr_skip (tr_then (tr_seq (tr_block (tr_seq (q_k [(0 : Int) ≤ (k : Int), (k : Int) < (l.Next.length : Int), (0 : Int) ≤ (c : Int), (c : Int) < ((l.Next.getD k []).length : Int), ((l.Next.getD k []).getD c 0) = (toL l k c)] [2, 3, 7, 8, 9, 10, 11] [vbool b, .ref 0 [], .own 2, vint .i64 (r : Int), vint .i64 (k : Int), vint .i64 (c : Int), vint .i64 (toL l k c)] [(8, vint .i64 (toL l k c))] [] (al (by omega) (al (by omega) (al (by omega) (al (by omega) (al (by omega) (trivial)))))) (tr_then (tr_seq (tr_seq (q_m [2, 3, 7, 8, 9, 10, 11, 40] [vbool b, .ref 0 [], .own 2, vint .i64 (r : Int), vint .i64 (k : Int), vint .i64 (c : Int), vint .i64 (toL l k c), vbool (decide ((toL l k c) < 0))] (tr_then (q_e ((toL l k c) < 0) (fun hc4 => ?_) (fun hc4 => ?_))))))))))))
       ·refine tr_exit (th_e (in_hit (tr_then (q_k [(IntKind.wrap .i64 ((c : Int) + 1)) = (((c + 1) : Nat) : Int)] [2, 3, 7, 8, 9, 10] [vbool b, .ref 0 [], .own 2, vint .i64 (r : Int), vint .i64 (k : Int), vint .i64 (((c + 1) : Nat) : Int)] [(1, vint .i64 (((c + 1) : Nat) : Int))] [] (al (wr64 (by omega) (by omega) (by omega)) (trivial)) (lp_end ((c + 1), o) ?_ ?_ ?_)))))
        ·show ((c + 1) ≤ 37) ∧ (o = rowB l b k ob (c + 1))
         refine ⟨?_, ?_⟩
         ·omega
         ·first | (rw [rowB, cellB, if_pos hc4]; exact hi2_1) | (rw [rowB, cellB, if_neg hc4, ← hi2_1, ← hj15_0, put2, if_pos (by rw [hc5.1, hc5.2]; rfl)]; done) | (rw [rowB, cellB, if_neg hc4, ← hi2_1, ← hj15_0, put2, if_neg (fun h => hc5 (by simpa using h))]; done)
        ·show 37 - (c + 1) < 37 - c
         omega
        ·intro A_ W_ hS
         exact q_v [∀ i, i < o.length → D.p (eB (o.getD i false)) = .p (eB (o.getD i false))] [0, 1, 2] [2, 3, 7, 8, 9, 10] (al (fun _ _ => rfl) trivial) hS
       ·refine tr_skip (tr_then (tr_join (α := (List Bool)) (fun z : (List Bool) => (fun (o1 : List Bool) => [(2, none, vbool b), (3, none, .ref 0 []), (7, none, .own 2), (8, none, vint .i64 (r : Int)), (9, none, vint .i64 (k : Int)), (10, none, vint .i64 (c : Int)), (11, none, vint .i64 (toL l k c))]) z) (fun z : (List Bool) => (fun (o1 : List Bool) => [.box (.p (eLang l)), .dead, oL 4 eB 1 false o1]) z) (fun z : (List Bool) => (fun (o1 : List Bool) => (o1 = put1 l b k c o)) z) ?_ ?_))
        ·intro z hz
         revert z; intro o1 hz
         have hz : (o1 = put1 l b k c o) := hz
         have hj15_0 := hz
         have hl1 : o1.length = mk.length := by rw [hj15_0, put1_len, hlo]
         refine tr_seq (q_s [(!b) = true → (!b) = true, (!b) = true → (!b) = true, (!b) = true → ((0 : Int) ≤ (k : Int)), (!b) = true → ((k : Int) < (o1.length : Int)), (!b) = true → (!b) = true, (!b) = true → (k < o1.length), (!b) = true → (!b) = true] [2, 3, 7, 8, 9, 10, 11, 58] [vbool b, .ref 0 [], .own 2, vint .i64 (r : Int), vint .i64 (k : Int), vint .i64 (c : Int), vint .i64 (toL l k c), vbool ((!b) && (o1.getD k false))] [.box (.p (eLang l)), .dead, oL 4 eB 1 false o1] (al id (al id (al (by omega) (al (by omega) (al id (al (by omega) (al id (trivial)))))))) (tr_then (q_c ((!b) && (o1.getD k false)) ((b = false) ∧ ((o1.getD k false) = true)) (fun hc5 => ?_) (fun hc5 => ?_))))
         ·refine q_s [(0 : Int) ≤ (toL l k c), (toL l k c) < (o1.length : Int), (toL l k c).toNat < o1.length] [2, 3, 7, 8, 9, 10] [vbool b, .ref 0 [], .own 2, vint .i64 (r : Int), vint .i64 (k : Int), vint .i64 (c : Int)] [.box (.p (eLang l)), .dead, .arr 4 1 o1.length (upd (fun i => .p (eB (o1.getD i false))) ((toL l k c).toNat) (vbool true))] (al (by omega) (al (by omega) (al (by omega) (trivial)))) (nm_pre (E' := [(2, none, vbool b), (3, none, .ref 0 []), (7, none, .own 2), (8, none, vint .i64 (r : Int)), (9, none, vint .i64 (k : Int)), (10, none, vint .i64 (c : Int))]) (H' := [.box (.p (eLang l)), .dead, oL 4 eB 1 false (o1.set ((toL l k c).toNat) true)]) (fun _ _ => sl_arr (n := o1.length) (n' := (o1.set ((toL l k c).toNat) true).length) (f := upd (fun i => .p (eB (o1.getD i false))) ((toL l k c).toNat) (vbool true)) 2 (fun i => .p (eB ((o1.set ((toL l k c).toNat) true).getD i false))) (by kernel_rfl) (by simp) (by exact setN)) (in_n (tr_then (q_k [(IntKind.wrap .i64 ((c : Int) + 1)) = (((c + 1) : Nat) : Int)] [2, 3, 7, 8, 9, 10] [vbool b, .ref 0 [], .own 2, vint .i64 (r : Int), vint .i64 (k : Int), vint .i64 (((c + 1) : Nat) : Int)] [(1, vint .i64 (((c + 1) : Nat) : Int))] [] (al (wr64 (by omega) (by omega) (by omega)) (trivial)) (lp_end ((c + 1), (o1.set ((toL l k c).toNat) true)) ?_ ?_ ?_)))))
          ·show ((c + 1) ≤ 37) ∧ ((o1.set ((toL l k c).toNat) true) = rowB l b k ob (c + 1))
           refine ⟨?_, ?_⟩
           ·omega
           ·first | (rw [rowB, cellB, if_pos hc4]; exact hi2_1) | (rw [rowB, cellB, if_neg hc4, ← hi2_1, ← hj15_0, put2, if_pos (by rw [hc5.1, hc5.2]; rfl)]; done) | (rw [rowB, cellB, if_neg hc4, ← hi2_1, ← hj15_0, put2, if_neg (fun h => hc5 (by simpa using h))]; done)
          ·show 37 - (c + 1) < 37 - c
           omega
          ·intro A_ W_ hS
           exact q_v [∀ i, i < (o1.set ((toL l k c).toNat) true).length → D.p (eB ((o1.set ((toL l k c).toNat) true).getD i false)) = .p (eB ((o1.set ((toL l k c).toNat) true).getD i false))] [0, 1, 2] [2, 3, 7, 8, 9, 10] (al (fun _ _ => rfl) trivial) hS
         ·refine tr_skip (in_n (tr_then (q_k [(IntKind.wrap .i64 ((c : Int) + 1)) = (((c + 1) : Nat) : Int)] [2, 3, 7, 8, 9, 10] [vbool b, .ref 0 [], .own 2, vint .i64 (r : Int), vint .i64 (k : Int), vint .i64 (((c + 1) : Nat) : Int)] [(1, vint .i64 (((c + 1) : Nat) : Int))] [] (al (wr64 (by omega) (by omega) (by omega)) (trivial)) (lp_end ((c + 1), o1) ?_ ?_ ?_))))
          ·show ((c + 1) ≤ 37) ∧ (o1 = rowB l b k ob (c + 1))
           refine ⟨?_, ?_⟩
           ·omega
           ·first | (rw [rowB, cellB, if_pos hc4]; exact hi2_1) | (rw [rowB, cellB, if_neg hc4, ← hi2_1, ← hj15_0, put2, if_pos (by rw [hc5.1, hc5.2]; rfl)]; done) | (rw [rowB, cellB, if_neg hc4, ← hi2_1, ← hj15_0, put2, if_neg (fun h => hc5 (by simpa using h))]; done)
          ·show 37 - (c + 1) < 37 - c
           omega
          ·intro A_ W_ hS
           exact q_v [∀ i, i < o1.length → D.p (eB (o1.getD i false)) = .p (eB (o1.getD i false))] [0, 1, 2] [2, 3, 7, 8, 9, 10] (al (fun _ _ => rfl) trivial) hS
        ·refine tr_seq (q_s [b = true → b = true, b = true → b = true, b = true → ((0 : Int) ≤ (toL l k c)), b = true → ((toL l k c) < (o.length : Int)), b = true → b = true, b = true → ((toL l k c).toNat < o.length), b = true → b = true] [2, 3, 7, 8, 9, 10, 11, 47] [vbool b, .ref 0 [], .own 2, vint .i64 (r : Int), vint .i64 (k : Int), vint .i64 (c : Int), vint .i64 (toL l k c), vbool (b && (o.getD ((toL l k c).toNat) false))] [.box (.p (eLang l)), .dead, oL 4 eB 1 false o] (al id (al id (al (by omega) (al (by omega) (al id (al (by omega) (al id (trivial)))))))) (tr_then (q_c (b && (o.getD ((toL l k c).toNat) false)) ((b = true) ∧ ((o.getD ((toL l k c).toNat) false) = true)) (fun hc6 => ?_) (fun hc6 => ?_))))
         ·refine q_s [(0 : Int) ≤ (k : Int), (k : Int) < (o.length : Int), k < o.length] [2, 3, 7, 8, 9, 10, 11] [vbool b, .ref 0 [], .own 2, vint .i64 (r : Int), vint .i64 (k : Int), vint .i64 (c : Int), vint .i64 (toL l k c)] [.box (.p (eLang l)), .dead, .arr 4 1 o.length (upd (fun i => .p (eB (o.getD i false))) k (vbool true))] (al (by omega) (al (by omega) (al (by omega) (trivial)))) (nm_pre (E' := [(2, none, vbool b), (3, none, .ref 0 []), (7, none, .own 2), (8, none, vint .i64 (r : Int)), (9, none, vint .i64 (k : Int)), (10, none, vint .i64 (c : Int)), (11, none, vint .i64 (toL l k c))]) (H' := [.box (.p (eLang l)), .dead, oL 4 eB 1 false (o.set k true)]) (fun _ _ => sl_arr (n := o.length) (n' := (o.set k true).length) (f := upd (fun i => .p (eB (o.getD i false))) k (vbool true)) 2 (fun i => .p (eB ((o.set k true).getD i false))) (by kernel_rfl) (by simp) (by exact setN)) (jn_end (o.set k true) ?_ ?_))
          ·show ((o.set k true) = put1 l b k c o)
           ·first | (rw [put1, if_pos (by rw [hc6.1, hc6.2]; rfl)]; done) | (rw [put1, if_neg (fun h => hc6 (by simpa using h))]; done)
          ·intro A_ W_ hS
           exact q_v [∀ i, i < (o.set k true).length → D.p (eB ((o.set k true).getD i false)) = .p (eB ((o.set k true).getD i false))] [0, 1, 2] [2, 3, 7, 8, 9, 10, 11] (al (fun _ _ => rfl) trivial) hS
         ·refine tr_skip (jn_end o ?_ ?_)
          ·show (o = put1 l b k c o)
           ·first | (rw [put1, if_pos (by rw [hc6.1, hc6.2]; rfl)]; done) | (rw [put1, if_neg (fun h => hc6 (by simpa using h))]; done)
          ·intro A_ W_ hS
           exact q_v [∀ i, i < o.length → D.p (eB (o.getD i false)) = .p (eB (o.getD i false))] [0, 1, 2] [2, 3, 7, 8, 9, 10, 11] (al (fun _ _ => rfl) trivial) hS
      ·refine tr_exit (th_e (th_e (in_hit (in_n (tr_then (q_k [(IntKind.wrap .i64 ((k : Int) + 1)) = (((k + 1) : Nat) : Int)] [2, 3, 7, 8, 9] [vbool b, .ref 0 [], .own 2, vint .i64 (r : Int), vint .i64 (((k + 1) : Nat) : Int)] [(1, vint .i64 (((k + 1) : Nat) : Int))] [] (al (wr64 (by omega) (by omega) (by omega)) (trivial)) (lp_end ((k + 1), o) ?_ ?_ ?_)))))))
       ·show ((k + 1) ≤ mk.length) ∧ (o = rndB l b oa (k + 1))
        refine ⟨?_, ?_⟩
        ·omega
        ·rw [hi2_1, show c = 37 by omega, hi1_1]; rfl
       ·show mk.length - (k + 1) < mk.length - k
        omega
       ·intro A_ W_ hS
        exact q_v [∀ i, i < o.length → D.p (eB (o.getD i false)) = .p (eB (o.getD i false))] [0, 1, 2] [2, 3, 7, 8, 9] (al (fun _ _ => rfl) trivial) hS
    ·refine tr_exit (th_e (th_e (in_hit (in_n (tr_then (q_k [(IntKind.wrap .i64 ((r : Int) + 1)) = (((r + 1) : Nat) : Int)] [2, 3, 7, 8] [vbool b, .ref 0 [], .own 2, vint .i64 (((r + 1) : Nat) : Int)] [(1, vint .i64 (((r + 1) : Nat) : Int))] [] (al (wr64 (by omega) (by omega) (by omega)) (trivial)) (lp_end ((r + 1), ob) ?_ ?_ ?_)))))))
     ·show ((r + 1) ≤ mk.length) ∧ (ob = allB l b mk (r + 1))
      refine ⟨?_, ?_⟩
      ·omega
      ·rw [hi1_1, show k = mk.length by omega, hi0_1]; rfl
     ·show mk.length - (r + 1) < mk.length - r
      omega
     ·intro A_ W_ hS
      exact q_v [∀ i, i < ob.length → D.p (eB (ob.getD i false)) = .p (eB (ob.getD i false))] [0, 1, 2] [2, 3, 7, 8] (al (fun _ _ => rfl) trivial) hS
  ·refine tr_exit (th_e (th_e (in_hit (tr_then (tr_seq (tr_pre (E' := [(2, none, vbool b), (3, none, .ref 0 []), (7, none, .p ((eL eB 1 false) oa)), (8, none, vint .i64 (r : Int)), (18, none, vbool (decide ((r : Int) < (oa.length : Int))))]) (H' := [.box (.p (eLang l)), .dead, .dead]) (fun _ _ => sl_freeze (vc := [∀ j, j < oa.length → D.p (eB (oa.getD j false)) = .p ((fun j => eB (oa.getD j false)) j)]) 2 (fun j => eB (oa.getD j false)) (by kernel_rfl) (al (fun _ _ => rfl) trivial)) (q_m [6] [.p ((eL eB 1 false) oa)] (tr_then (tr_pre (E' := [(6, none, .p ((eL eB 1 false) oa))]) (H' := []) (fun _ _ h => q_w [] [6] h) (q_i (d := .p ((eL eB 1 false) oa)) 6 (.p ((eL eB 1 false) (allB l b mk mk.length))) ?_ ?_))))))))))
   ·refine imp_eq (congrArg (fun x => D.p ((eL eB 1 false) x)) (a₁ := oa) (a₂ := (allB l b mk mk.length)) ?_)
    rw [hi0_1, show r = mk.length by omega]
   exact q_z [.p ((eL eB 1 false) (allB l b mk mk.length))] (fun _ _ h => h)
end Go.Proofs.Ytjnjmnfacaakfaa
namespace Go.Proofs.Ytjnjmnfacaakfaa
open Go.Eng
def frL (l : Lang) : List Bool := (List.replicate l.Accept.length false).set 0 true
def reB (l : Lang) : List Bool := allB l false (frL l) l.Accept.length
def leB (l : Lang) : List Bool := allB l true l.Accept l.Accept.length
def bothB (l : Lang) (k : Nat) : List Bool := (List.range k).map fun q => (reB l).getD q false && (leB l).getD q false
def liveR (l : Lang) : List Bool := if check l ≠ 0 then [] else bothB l l.Accept.length
theorem reB_eq (l : Lang) : allB l false ((List.replicate l.Accept.length false).set 0 true) ((List.replicate l.Accept.length false).set 0 true).length = reB l := by
 unfold reB frL
 rw [List.length_set, List.length_replicate]
theorem frL_len (l : Lang) : (frL l).length = l.Accept.length := by simp [frL]
theorem bothB_len (l : Lang) (k : Nat) : (bothB l k).length = k := by simp [bothB]
theorem bothB_s (l : Lang) (k : Nat) : bothB l k ++ [(reB l).getD k false && (leB l).getD k false] = bothB l (k + 1) := by
 unfold bothB
 rw [List.range_succ, List.map_append]
 rfl
def RB (n : Nat) (o : List Bool) (M : Mp) : Prop := o.length = n ∧ ∀ i, i < n → o.getD i false = gb M i
theorem getD_set_b {o : List Bool} {k i : Nat} (hk : k < o.length) : (o.set k true).getD i false = if i = k then true else o.getD i false := by
 rw [List.getD_eq_getElem?_getD, List.getElem?_set]
 by_cases h : k = i
 ·subst h; rw [if_pos rfl, if_pos hk, if_pos rfl]; rfl
 ·rw [if_neg h, if_neg (fun e => h e.symm), List.getD_eq_getElem?_getD]
theorem gb_putM {M : Mp} {k i : Nat} {b : Bool} : gb (putM M k b) i = if i = k then b else gb M i := by
 unfold gb putM
 split <;> rfl
theorem rb_put {n : Nat} {o : List Bool} {M : Mp} (h : RB n o M) {k t : Nat} (hk : k < n) (ht : t < n) : RB n (if o.getD k false = true then o.set t true else o) (putM M t (gb M t || gb M k)) := by
 refine ⟨by split <;> simp [h.1], fun i hi => ?_⟩
 rw [gb_putM]
 split
 ·rename_i hg
  rw [getD_set_b (by rw [h.1]; exact ht), ← h.2 k hk, hg, Bool.or_true, h.2 i hi]
 ·rename_i hg
  have hg : gb M k = false := by rw [← h.2 k hk]; exact eq_false_of_ne_true hg
  rw [hg, Bool.or_false]
  by_cases e : i = t
  ·subst e; rw [if_pos rfl]; exact h.2 _ hi
  ·rw [if_neg e]; exact h.2 i hi
theorem put1_f {l : Lang} {k c : Nat} {o : List Bool} : put1 l false k c o = o := by unfold put1; simp
theorem put2_f {l : Lang} {k c : Nat} {o : List Bool} : put2 l false k c o = if o.getD k false = true then o.set (toL l k c).toNat true else o := by unfold put2; simp
theorem put1_t {l : Lang} {k c : Nat} {o : List Bool} : put1 l true k c o = if o.getD (toL l k c).toNat false = true then o.set k true else o := by unfold put1; simp
theorem put2_t {l : Lang} {k c : Nat} {o : List Bool} : put2 l true k c o = o := by unfold put2; simp
theorem rb_cell {l : Lang} (hok : check l = 0) {n k c : Nat} (hn : n = l.Accept.length) (hk : k < n) (hc : c < 37) {o o' : List Bool} {x : Mp × Mp} (h1 : RB n o x.1) (h2 : RB n o' x.2) :
  RB n (cellB l false k c o) (cellL l k c x).1 ∧ RB n (cellB l true k c o') (cellL l k c x).2 := by
 obtain ⟨f1, f2, f3, f4⟩ := check_facts hok
 have hr := (f4 k (by omega)).2 c (by have := (f4 k (by omega)).1; omega)
 have ht : toL l k c = (l.Next.getD k []).getD c 0 := rfl
 unfold cellB cellL
 by_cases h0 : toL l k c < 0
 ·rw [if_pos h0, if_pos h0, if_neg (by omega)]; exact ⟨h1, h2⟩
 ·rw [if_neg h0, if_neg h0, if_pos (by omega), put1_f, put2_f, put1_t, put2_t]
  exact ⟨rb_put h1 hk (by omega), rb_put h2 (by omega) hk⟩
theorem rb_row {l : Lang} (hok : check l = 0) {n k : Nat} (hn : n = l.Accept.length) (hk : k < n) {o o' : List Bool} {x : Mp × Mp} (h1 : RB n o x.1) (h2 : RB n o' x.2) :
  ∀ c, c ≤ 37 → RB n (rowB l false k o c) (rowLv l k x c).1 ∧ RB n (rowB l true k o' c) (rowLv l k x c).2
 | 0, _ => ⟨h1, h2⟩
 | c + 1, hc => rb_cell hok hn hk (by omega) (rb_row hok hn hk h1 h2 c (by omega)).1 (rb_row hok hn hk h1 h2 c (by omega)).2
theorem rb_rnd {l : Lang} (hok : check l = 0) {n : Nat} (hn : n = l.Accept.length) {o o' : List Bool} {x : Mp × Mp} (h1 : RB n o x.1) (h2 : RB n o' x.2) :
  ∀ k, k ≤ n → RB n (rndB l false o k) (rndL l x k).1 ∧ RB n (rndB l true o' k) (rndL l x k).2
 | 0, _ => ⟨h1, h2⟩
 | k + 1, hk => by
  obtain ⟨f1, f2, f3, f4⟩ := check_facts hok
  have ih := rb_rnd hok hn h1 h2 k (by omega)
  unfold rndB rndL
  rw [(f4 k (by omega)).1]
  exact rb_row hok hn (by omega) ih.1 ih.2 37 (Nat.le_refl _)
theorem rb_all {l : Lang} (hok : check l = 0) {n : Nat} (hn : n = l.Accept.length) {o o' : List Bool} (h1 : RB n o (allL l 0).1) (h2 : RB n o' (allL l 0).2) :
  ∀ r, RB n (allB l false o r) (allL l r).1 ∧ RB n (allB l true o' r) (allL l r).2
 | 0 => ⟨h1, h2⟩
 | r + 1 => by
  obtain ⟨f1, f2, f3, f4⟩ := check_facts hok
  have ih := rb_all hok hn h1 h2 r
  unfold allB allL
  rw [h1.1, h2.1, show l.Next.length = n by omega]
  exact rb_rnd hok hn ih.1 ih.2 n (Nat.le_refl _)
theorem liveR_eq (l : Lang) : liveR l = liveS l := by
 unfold liveR liveS
 split
 ·rfl
 ·rename_i h
  have hok : check l = 0 := Classical.not_not.1 h
  have h1 : RB l.Accept.length (frL l) (allL l 0).1 := ⟨frL_len l, fun i hi => by
   unfold frL
   rw [getD_set_b (by simp; omega)]
   show _ = gb mp0 i
   unfold gb mp0
   by_cases e : i = 0
   ·rw [if_pos e, if_pos e]; rfl
   ·rw [if_neg e, if_neg e, List.getD_eq_getElem?_getD, List.getElem?_replicate, if_pos hi]; rfl⟩
  have h2 : RB l.Accept.length l.Accept (allL l 0).2 := ⟨rfl, fun i hi => by
   show _ = gb (mpL l l.Accept.length) i
   unfold gb mpL
   rw [if_pos hi]; rfl⟩
  have key := rb_all hok rfl h1 h2 l.Accept.length
  unfold bothB liveL outL
  refine List.map_congr_left fun q hq => ?_
  rw [List.mem_range] at hq
  rw [if_pos hq]
  unfold reB leB
  rw [key.1.2 q hq, key.2.2 q hq]
theorem refLive_ok (l : Lang) : Pure Try.prog 26 [eLang l] (.p ((eL eB 1 false) (liveR l))) := by
 have hcf := fun h : check l = 0 => check_facts h
 refine pure_of (fn := Try.f26) Try.func26 rfl rfl fun F_ W0_ => ?_
 refine tr_seq (q_t [1] [.ref 0 []] [.box (.p (eLang l))] (tr_then (tr_seq (tr_seq (q_k [Pure Try.prog 21 [eLang l] (vint .i64 (check l))] [1, 10] [.ref 0 [], vbool ((check l) != 0)] [] [(1, vint .i64 (check l))] (al (refCheck_ok _) (trivial)) (tr_then (q_c ((check l) != 0) ((check l) ≠ 0) (fun hc1 => ?_) (fun hc1 => ?_))))))))
 ·refine tr_seq (q_m [2] [.p (.v (.slice none 0 0))] (tr_then (tr_pre (E' := [(2, none, .p (.v (.slice none 0 0)))]) (H' := []) (fun _ _ h => q_w [] [2] h) (q_i (d := .p (.v (.slice none 0 0))) 2 (.p ((eL eB 1 false) (liveR l))) ?_ ?_))))
  ·refine imp_nil (liveR l) ?_
   rw [liveR, if_pos hc1]
  exact q_z [.p ((eL eB 1 false) (liveR l))] (fun _ _ h => h)
 ·refine tr_skip (tr_then (tr_seq (q_s [(0 : Int) ≤ (l.Accept.length : Int), ((l.Accept.length : Int) : Int) ≤ (l.Accept.length : Int), (1 : Int) * (l.Accept.length : Int) ≤ 140737488355328, ((l.Accept.length : Int) : Int) ≤ 9223372036854775807] [1, 3] [.ref 0 [], .own 1] [.box (.p (eLang l)), .arr 4 1 l.Accept.length (fun _ => vbool false)] ?_ ?_)))
  ·refine al (by omega) (al (by omega) (al ?_ (al ?_ (trivial))))
   ·have := (hcf (by omega)).2.1; omega
   ·have := (hcf (by omega)).2.1; omega
  refine nm_pre (E' := [(1, none, .ref 0 []), (3, none, .own 1)]) (H' := [.box (.p (eLang l)), oL 4 eB 1 false (List.replicate l.Accept.length false)]) (fun _ _ => sl_arr (n := l.Accept.length) (n' := (List.replicate l.Accept.length false).length) (f := fun _ => vbool false) 1 (fun i => .p (eB ((List.replicate l.Accept.length false).getD i false))) (by kernel_rfl) (by simp) (by exact makeN (e := eB) (d := false))) (tr_then (tr_seq (q_s [(0 : Int) ≤ 0, 0 < ((List.replicate l.Accept.length false).length : Int), 0 < (List.replicate l.Accept.length false).length] [1, 3] [.ref 0 [], .own 1] [.box (.p (eLang l)), .arr 4 1 ((List.replicate l.Accept.length false).length) (upd (fun i => .p (eB ((List.replicate l.Accept.length false).getD i false))) 0 (vbool true))] ?_ ?_)))
  ·refine al (by omega) (al ?_ (al ?_ (trivial)))
   ·have := (hcf (by omega)).1; rw [List.length_replicate]; omega
   ·have := (hcf (by omega)).1; rw [List.length_replicate]; omega
  refine nm_pre (E' := [(1, none, .ref 0 []), (3, none, .own 1)]) (H' := [.box (.p (eLang l)), oL 4 eB 1 false ((List.replicate l.Accept.length false).set 0 true)]) (fun _ _ => sl_arr (n := ((List.replicate l.Accept.length false).length)) (n' := ((List.replicate l.Accept.length false).set 0 true).length) (f := upd (fun i => .p (eB ((List.replicate l.Accept.length false).getD i false))) 0 (vbool true)) 1 (fun i => .p (eB (((List.replicate l.Accept.length false).set 0 true).getD i false))) (by kernel_rfl) (by simp) (by exact setN)) (tr_then (tr_seq (tr_pre (E' := [(1, none, .ref 0 []), (3, none, .p ((eL eB 1 false) ((List.replicate l.Accept.length false).set 0 true)))]) (H' := [.box (.p (eLang l)), .dead]) (fun _ _ => sl_freeze (vc := [∀ j, j < ((List.replicate l.Accept.length false).set 0 true).length → D.p (eB (((List.replicate l.Accept.length false).set 0 true).getD j false)) = .p ((fun j => eB (((List.replicate l.Accept.length false).set 0 true).getD j false)) j)]) 1 (fun j => eB (((List.replicate l.Accept.length false).set 0 true).getD j false)) (by kernel_rfl) (al (fun _ _ => rfl) trivial)) (q_d [Pure Try.prog 45 [eLang l, (eL eB 1 false) ((List.replicate l.Accept.length false).set 0 true), .v (.bool false)] (.p ((eL eB 1 false) (allB l false ((List.replicate l.Accept.length false).set 0 true) ((List.replicate l.Accept.length false).set 0 true).length))), Pure Try.prog 45 [eLang l, (eL eB 1 false) l.Accept, .v (.bool true)] (.p ((eL eB 1 false) (allB l true l.Accept l.Accept.length))), (allB l false ((List.replicate l.Accept.length false).set 0 true) ((List.replicate l.Accept.length false).set 0 true).length).length = (reB l).length ∧ ∀ j_, j_ < (allB l false ((List.replicate l.Accept.length false).set 0 true) ((List.replicate l.Accept.length false).set 0 true).length).length → eB ((allB l false ((List.replicate l.Accept.length false).set 0 true) ((List.replicate l.Accept.length false).set 0 true).length).getD j_ false) = eB ((reB l).getD j_ false), (allB l true l.Accept l.Accept.length).length = (leB l).length ∧ ∀ j_, j_ < (allB l true l.Accept l.Accept.length).length → eB ((allB l true l.Accept l.Accept.length).getD j_ false) = eB ((leB l).getD j_ false)] [4, 5] [.p ((eL eB 1 false) (reB l)), .p ((eL eB 1 false) (leB l))] [(7, .p ((eL eB 1 false) (reB l))), (8, .p ((eL eB 1 false) (leB l)))] [(2, .p ((eL eB 1 false) (allB l false ((List.replicate l.Accept.length false).set 0 true) ((List.replicate l.Accept.length false).set 0 true).length))), (6, .p ((eL eB 1 false) (allB l true l.Accept l.Accept.length)))] (al (spread_ok l _ _ (by omega) (by simp)) (al (spread_ok l _ _ (by omega) (by simp)) (al (by rw [reB_eq]; exact ⟨rfl, fun _ _ => rfl⟩) (al (⟨rfl, fun _ _ => rfl⟩) (trivial))))) (tr_then (tr_seq (q_m [4, 5, 6] [.p ((eL eB 1 false) (reB l)), .p ((eL eB 1 false) (leB l)), .p (.v (.slice none 0 0))] (tr_then (tr_seq (tr_seq (q_m [4, 5, 6, 7] [.p ((eL eB 1 false) (reB l)), .p ((eL eB 1 false) (leB l)), .p (.v (.slice none 0 0)), vint .i64 0] (tr_then (tr_block (tr_loop (α := Nat × (List Bool)) (fun z : Nat × (List Bool) => (fun (k : Nat) (o : List Bool) => [(4, none, .p ((eL eB 1 false) (reB l))), (5, none, .p ((eL eB 1 false) (leB l))), (6, none, .own 2), (7, none, vint .i64 (k : Int))]) z.1 z.2) (fun z : Nat × (List Bool) => (fun (k : Nat) (o : List Bool) => [.box (.p (eLang l)), .dead, oL 4 eB 1 false o]) z.1 z.2) (fun z : Nat × (List Bool) => (fun (k : Nat) (o : List Bool) => (k ≤ l.Accept.length) ∧ (o = bothB l k)) z.1 z.2) (fun z : Nat × (List Bool) => (fun (k : Nat) (o : List Bool) => l.Accept.length - k) z.1 z.2) (0, ([] : List Bool)) ?_ ?_ ?_))))))))))))))
  ·show (0 ≤ l.Accept.length) ∧ (([] : List Bool) = bothB l 0)
   refine ⟨?_, ?_⟩
   ·omega
   ·rfl
  ·intro A_ W_ hS
   replace hS := sl_nil 6 4 1 (fun i => .p (eB (([] : List Bool).getD i false))) (by kernel_rfl) hS
   replace hS := q_a (d := vint .i64 0) 7 (vint .i64 ((0 : Nat) : Int)) (eqD_int (by omega)) hS
   exact q_v [∀ i, i < ([] : List Bool).length → D.p (eB (([] : List Bool).getD i false)) = .p (eB (([] : List Bool).getD i false))] [0, 1, 2] [4, 5, 6, 7] (al (fun _ _ => rfl) trivial) hS
  ·intro z hz
   obtain ⟨k, o⟩ := z
   have hz : (k ≤ l.Accept.length) ∧ (o = bothB l k) := hz
   obtain ⟨hi0_0, hi0_1⟩ := hz
   have h16 := (hcf (by omega)).2.1
   have hlo : o.length = k := by rw [hi0_1, bothB_len]
   have hlr : (reB l).length = l.Accept.length := by rw [reB, allB_len, frL_len]
   have hll : (leB l).length = l.Accept.length := by rw [leB, allB_len]
   refine tr_seq (tr_seq (q_t [4, 5, 6, 7, 27] [.p ((eL eB 1 false) (reB l)), .p ((eL eB 1 false) (leB l)), .own 2, vint .i64 (k : Int), vbool (decide ((k : Int) < (((reB l).length : Nat) : Int)))] [.box (.p (eLang l)), .dead, oL 4 eB 1 false o] (tr_then (q_e ((k : Int) < (((reB l).length : Nat) : Int)) (fun hc2 => ?_) (fun hc2 => ?_)))))
   ·refine tr_skip (tr_then (tr_seq (tr_block (q_r [(0 : Int) ≤ (k : Int), (k : Int) < ((reB l).length : Int), ((reB l).getD k false) = true → ((reB l).getD k false) = true, ((reB l).getD k false) = true → ((reB l).getD k false) = true, ((reB l).getD k false) = true → ((0 : Int) ≤ (k : Int)), ((reB l).getD k false) = true → ((k : Int) < ((leB l).length : Int)), ((reB l).getD k false) = true → ((reB l).getD k false) = true, ((reB l).getD k false) = true → ((reB l).getD k false) = true, ∀ j, j < 1 → ([.v (.bool (((reB l).getD k false) && ((leB l).getD k false)))] : List PV).getD j default = (fun i => eB (([(((reB l).getD k false) && ((leB l).getD k false))]).getD i false)) j, (o.length + (([(((reB l).getD k false) && ((leB l).getD k false))]).length)) * 1 ≤ 140737488355328] [4, 5, 6, 7] [.p ((eL eB 1 false) (reB l)), .p ((eL eB 1 false) (leB l)), .own 3, vint .i64 (k : Int)] [.box (.p (eLang l)), .dead, .dead, .arr 4 1 (o.length + ([(((reB l).getD k false) && ((leB l).getD k false))]).length) (appF (fun i => .p (eB (o.getD i false))) o.length (fun j => .p (eB (([(((reB l).getD k false) && ((leB l).getD k false))]).getD j false))))] [] [(11, .p ((eL eB 1 false) ([(((reB l).getD k false) && ((leB l).getD k false))])))] (al (by omega) (al (by omega) (al id (al id (al (by omega) (al (by omega) (al id (al id (al (lit_pv (e := eB) (d := false) (l := [(((reB l).getD k false) && ((leB l).getD k false))])) (al (by simp only [List.length_cons, List.length_nil]; omega) (trivial))))))))))) (nm_pre (E' := [(4, none, .p ((eL eB 1 false) (reB l))), (5, none, .p ((eL eB 1 false) (leB l))), (6, none, .own 3), (7, none, vint .i64 (k : Int))]) (H' := [.box (.p (eLang l)), .dead, .dead, oL 4 eB 1 false (o ++ ([(((reB l).getD k false) && ((leB l).getD k false))]))]) (fun _ _ => sl_arr (n := (o.length + ([(((reB l).getD k false) && ((leB l).getD k false))]).length)) (n' := (o ++ ([(((reB l).getD k false) && ((leB l).getD k false))])).length) (f := appF (fun i => .p (eB (o.getD i false))) o.length (fun j => .p (eB (([(((reB l).getD k false) && ((leB l).getD k false))]).getD j false)))) 3 (fun i => .p (eB ((o ++ ([(((reB l).getD k false) && ((leB l).getD k false))])).getD i false))) (by kernel_rfl) (by simp) (by first | exact appN | exact nilN | exact app0 | exact nilV _)) (in_n (tr_then (q_k [(IntKind.wrap .i64 ((k : Int) + 1)) = (((k + 1) : Nat) : Int)] [4, 5, 6, 7] [.p ((eL eB 1 false) (reB l)), .p ((eL eB 1 false) (leB l)), .own 3, vint .i64 (((k + 1) : Nat) : Int)] [(1, vint .i64 (((k + 1) : Nat) : Int))] [] (al (wr64 (by omega) (by omega) (by omega)) (trivial)) (lp_end ((k + 1), (o ++ ([(((reB l).getD k false) && ((leB l).getD k false))]))) ?_ ?_ ?_)))))))))
    ·show ((k + 1) ≤ l.Accept.length) ∧ ((o ++ ([(((reB l).getD k false) && ((leB l).getD k false))])) = bothB l (k + 1))
     refine ⟨?_, ?_⟩
     ·omega
     ·rw [hi0_1, bothB_s]
    ·show l.Accept.length - (k + 1) < l.Accept.length - k
     omega
    ·intro A_ W_ hS
     exact q_v [∀ i, i < (o ++ ([(((reB l).getD k false) && ((leB l).getD k false))])).length → D.p (eB ((o ++ ([(((reB l).getD k false) && ((leB l).getD k false))])).getD i false)) = .p (eB ((o ++ ([(((reB l).getD k false) && ((leB l).getD k false))])).getD i false))] [0, 1, 3] [4, 5, 6, 7] (al (fun _ _ => rfl) trivial) hS
   ·refine tr_exit (th_e (th_e (in_hit (tr_then (tr_seq (tr_pre (E' := [(4, none, .p ((eL eB 1 false) (reB l))), (5, none, .p ((eL eB 1 false) (leB l))), (6, none, .p ((eL eB 1 false) o)), (7, none, vint .i64 (k : Int)), (27, none, vbool (decide ((k : Int) < (((reB l).length : Nat) : Int))))]) (H' := [.box (.p (eLang l)), .dead, .dead]) (fun _ _ => sl_freeze (vc := [∀ j, j < o.length → D.p (eB (o.getD j false)) = .p ((fun j => eB (o.getD j false)) j)]) 2 (fun j => eB (o.getD j false)) (by kernel_rfl) (al (fun _ _ => rfl) trivial)) (q_m [2] [.p ((eL eB 1 false) o)] (tr_then (tr_pre (E' := [(2, none, .p ((eL eB 1 false) o))]) (H' := []) (fun _ _ h => q_w [] [2] h) (q_i (d := .p ((eL eB 1 false) o)) 2 (.p ((eL eB 1 false) (liveR l))) ?_ ?_))))))))))
    ·refine imp_eq (congrArg (fun x => D.p ((eL eB 1 false) x)) (a₁ := o) (a₂ := (liveR l)) ?_)
     rw [liveR, if_neg hc1, hi0_1, show k = l.Accept.length by omega]
    exact q_z [.p ((eL eB 1 false) (liveR l))] (fun _ _ h => h)
end Go.Proofs.Ytjnjmnfacaakfaa
namespace Go.Eng
open Go.RowKit
structure Rows (F : PHeap) (e : TypeId) (n : Nat) (g : Nat → Value) (rb : Nat → Nat) (len : Nat → Nat) (f : Nat → Nat → Value) (w : World) : Prop where
 row : ∀ k, k < n → RelO noF noG w (.arr e 1 (len k) (fun i => .p (.v (f k i)))) (g k)
 blk : ∀ k, k < n → blk (g k) = some (rb k)
 inj : ∀ j k, j < n → k < n → rb j = rb k → j = k
 out : ∀ k, k < n → F (rb k) = none
def addW (F : PHeap) (n : Nat) (rb : Nat → Nat) (w : World) : PHeap := fun b =>
 if (List.range n).any (fun k => rb k == b) = true then (match w.heap[b]? with
  | some (.cells c _ _) => some c
  | _ => none) else F b
section
variable {F : PHeap} {e : TypeId} {n : Nat} {g : Nat → Value} {rb : Nat → Nat} {len : Nat → Nat} {f : Nat → Nat → Value} {w : World}
theorem any_rb {b : Nat} : (List.range n).any (fun k => rb k == b) = true ↔ ∃ k, k < n ∧ rb k = b := by
 simp [List.any_eq_true, List.mem_range]
theorem relO_cells {m : Nat} {f' : Nat → D} {v : Value} {r : Nat} {F' : PHeap} {γ' : Gm} (h : RelO F' γ' w (.arr e 1 m f') v) (hb : blk v = some r) : ∃ c cap, v = .slice (some ⟨r, 0, none⟩) m cap ∧ w.heap[r]? = some (.cells c e (0, 0)) ∧ m ≤ cap ∧ cap ≤ maxLen ∧ c.size = cap * 1 ∧
  ∀ i, i < m → RelD F' γ' (f' i) ((c.toList.drop (i * 1)).take 1) := by
 cases h with
 | arr0 => cases hb
 | @arr _ _ _ _ b cap c a1 a2 a3 a4 a5 =>
  simp only [Go.Eng.blk, Option.some.injEq] at hb
  subst hb
  exact ⟨c, cap, rfl, a1, a2, a3, a4, a5⟩
theorem Rows.cells (h : Rows F e n g rb len f w) {k : Nat} (hk : k < n) : ∃ c cap, g k = .slice (some ⟨rb k, 0, none⟩) (len k) cap ∧ w.heap[rb k]? = some (.cells c e (0, 0)) ∧ len k ≤ cap ∧ cap ≤ maxLen ∧ c.size = cap * 1 ∧
  ∀ i, i < len k → RelD noF noG (.p (.v (f k i))) ((c.toList.drop (i * 1)).take 1) := relO_cells (h.row k hk) (h.blk k hk)
theorem addW_row (h : Rows F e n g rb len f w) {k : Nat} (hk : k < n) {c T z} (hc : w.heap[rb k]? = some (.cells c T z)) : addW F n rb w (rb k) = some c := by
 unfold addW
 rw [if_pos (any_rb.2 ⟨k, hk, rfl⟩), hc]
theorem addW_old {b : Nat} (h : ∀ k, k < n → rb k ≠ b) : addW F n rb w b = F b := by
 unfold addW
 rw [if_neg]
 intro h'
 obtain ⟨k, h1, h2⟩ := any_rb.1 h'
 exact h k h1 h2
theorem addW_ge (h : Rows F e n g rb len f w) {b c} (hb : F b = some c) : addW F n rb w b = some c := by
 rw [addW_old]
 ·exact hb
 ·intro k hk e
  rw [← e, h.out k hk] at hb
  cases hb
theorem addW_sub (hs : Sub F w) : Sub (addW F n rb w) w := by
 intro b c hb
 unfold addW at hb
 split at hb
 ·split at hb
  ·rename_i c' T z hc
   cases hb
   exact ⟨T, z, hc⟩
  ·cases hb
 ·exact hs b c hb
theorem rows_rest {α : Type} {en : α → Value} {d : α} {gr : List (List α)} {xv : Value} (h : Rows F e gr.length g rb (fun k => (gr.getD k []).length) (fun k i => en ((gr.getD k []).getD i d)) w)
  (hx : RelP F (.lst 1 gr.length (fun k => .v (g k))) [xv]) : RelP (addW F gr.length rb w) (eL (eL (fun x => .v (en x)) 1 d) 1 [] gr) [xv] := by
 unfold eL
 generalize hm : gr.length = m at hx
 cases hx with
 | lst0 => exact .lst0
 | @lst _ _ _ b off cap c a1 a2 a3 a4 =>
  subst hm
  refine .lst (addW_ge h a1) a2 a3 fun i hi => ?_
  have hi' : i < gr.length := hi
  have h1 := a4 i hi
  generalize (c.toList.drop (off + i * 1)).take 1 = cs at h1
  cases h1 with
  | v hone =>
   obtain ⟨c2, cap2, e1, e2, e3, e4, e5, e6⟩ := h.cells hi'
   rw [e1]
   refine .lst (addW_row h hi' e2) e3 (by simp only [Nat.zero_add]; omega) fun j hj => ?_
   have := e6 j hj
   rw [Nat.zero_add]
   cases this with
   | p this => exact this.mono (fun b c h => by cases h)
end
/-! ### Operations, with slots that stay -/
def keepsB (l : List Oper) (ks : List Nat) : Bool := l.all fun o => match o.dst with
 | some t => !(ks.any (Nat.beq t))
 | none => true
theorem keeps_put {o : Oper} {l : List Oper} {ks : List Nat} (h : keepsB (o :: l) ks = true) : keepsB l ks = true ∧ ∀ (a : Act) v t, t ∈ ks → (a.put o.dst v).tmps[t]? = a.tmps[t]? := by
 unfold keepsB at h
 simp only [List.all_cons, Bool.and_eq_true] at h
 refine ⟨h.2, fun a v t ht => put_other fun e => ?_⟩
 rw [e] at h
 simp only [Bool.not_eq_true', List.any_eq_false] at h
 exact absurd (Nat.beq_refl t) (by simpa using h.1 t ht)
section
variable {P : Program} {C : Cx} {F : PHeap} {γ : Gm} {H : List O} {w : World}
theorem runQ_keep {N : Nat} {ops : Array Oper} {hs : List (Nat × D)} {ks : List Nat} {Q : Exit → Act → World → Prop} {rest : List Oper} (hS : SLH C F γ H w) : ∀ {l : List Oper} {i : Nat} {E E' : Env} {a : Act} {vc}, SLE F γ E a → a.tmps.size = N → runQ P N ops H hs i l E = some (vc, E') → all vc → keepsB l ks = true →
  (∀ a' : Act, SLE F γ E' a' → a'.tmps.size = N → a'.defers = a.defers → (∀ t ∈ ks, a'.tmps[t]? = a.tmps[t]?) → wpList P ops Q rest a' w) → wpList P ops Q (l ++ rest) a w
 | [], i, E, E', a, vc, hE, hN, h, _, _, hk => by
  simp only [runQ, Option.some.injEq, Prod.mk.injEq] at h
  obtain ⟨_, rfl⟩ := h
  exact hk a hE hN rfl fun _ _ => rfl
 | o :: l, i, E, E', a, vc, hE, hN, h, hvc, hks, hk => by
  simp only [runQ] at h
  split at h
  ·rename_i vc1 E1 h1
   split at h
   ·rename_i vc2 E2 h2
    simp only [Option.some.injEq, Prod.mk.injEq] at h
    obtain ⟨rfl, rfl⟩ := h
    rw [all_append] at hvc
    obtain ⟨ks2, kp⟩ := keeps_put hks
    obtain ⟨v, hv, hE1⟩ := stepQ_sound hS hE hN h1 hvc.1
    have ih : wpList P ops Q (l ++ rest) (a.put o.dst v) w := runQ_keep hS hE1 (by rw [put_size, hN]) h2 hvc.2 ks2 (fun a' k1 k2 k3 k4 => hk a' k1 k2 (by rw [k3, put_defers]) fun t ht => (k4 t ht).trans (kp a v t ht))
    show wpList P ops Q (o :: (l ++ rest)) a w
    unfold wpList
    rcases hv with ⟨hw, hr⟩ | ⟨hw, rfl⟩
    ·rw [if_pos hw]
     refine .inl ?_
     unfold Oper.wp
     rw [hr w (Keep.refl w)]
     exact ih
    ·rw [if_neg (by rw [hw]; simp)]
     exact ih
   ·cases h
  ·cases h
end
section
variable {C : Cx} {Q : Exit → Act → World → Prop} {ops : Array Oper} {hs : List (Nat × D)} {ks : List Nat}
theorem run_keep : ∀ {l : List Oper} {i : Nat} {E E' : Env} {H H' : List O} {a : Act} {w : World} {vc} {rest : List Oper}, SL C E H a w → run C.P C.γ0.length C.N ops hs i l E H = some (vc, E', H') → all vc → keepsB l ks = true →
  (∀ a' w', SL C E' H' a' w' → (∀ t ∈ ks, a'.tmps[t]? = a.tmps[t]?) → wpList C.P ops Q rest a' w') → wpList C.P ops Q (l ++ rest) a w
 | [], i, E, E', H, H', a, w, vc, rest, hSL, h, _, _, hk => by
  simp only [run, Option.some.injEq, Prod.mk.injEq] at h
  obtain ⟨_, rfl, rfl⟩ := h
  exact hk a w hSL fun _ _ => rfl
 | o :: l, i, E, E', H, H', a, w, vc, rest, hSL, h, hvc, hks, hk => by
  simp only [run] at h
  split at h
  ·rename_i vc1 E1 H1 h1
   split at h
   ·rename_i vc2 E2 H2 h2
    simp only [Option.some.injEq, Prod.mk.injEq] at h
    obtain ⟨rfl, rfl, rfl⟩ := h
    rw [all_append] at hvc
    obtain ⟨⟨F, γ, hS, hE⟩, hN, hD⟩ := hSL
    obtain ⟨ks2, kp⟩ := keeps_put hks
    obtain ⟨v, w', F', γ', hgo, hS', hE'⟩ := step_sound (P := C.P) hS hE hN h1 hvc.1
    have ih : wpList C.P ops Q (l ++ rest) (a.put o.dst v) w' := run_keep (SL.mk' hS' hE' (by rw [put_size, hN]) (by rw [put_defers, hD])) h2 hvc.2 ks2 fun a' w'' k1 k2 => hk a' w'' k1 fun t ht => (k2 t ht).trans (kp a v t ht)
    show wpList C.P ops Q (o :: (l ++ rest)) a w
    unfold wpList
    rcases hgo with ⟨hw, hr | ⟨hr, rfl⟩⟩ | ⟨hw, rfl, rfl⟩
    ·rw [if_pos hw]
     refine .inl ?_
     unfold Oper.wp
     rw [hr]; exact ih
    ·rw [if_pos hw]
     refine .inl ?_
     unfold Oper.wp
     rw [hr]; exact ih
    ·rw [if_neg (by rw [hw]; simp)]
     exact ih
   ·cases h
  ·cases h
end
/-! ### Slots whose data do not lie in memory -/
def scalD : D → Bool
 | .p (.v _) => true
 | .p (.s _) => true
 | _ => false
def scalE (E : Env) : Bool := E.all fun x => scalD x.2.2
theorem scal_rel {F F' : PHeap} {γ γ' : Gm} {d : D} {v : Value} (h : scalD d = true) (hr : RelV F γ d v) : RelV F' γ' d v := by
 unfold scalD at h
 split at h
 ·cases hr with
  | many hm => cases hm
  | one _ hr =>
   cases hr with
   | p hr => cases hr with | v h1 => exact .one rfl (.p (.v h1))
 ·cases hr with
  | many hm => cases hm
  | one _ hr =>
   cases hr with
   | p hr => cases hr; exact .one rfl (.p .s)
 ·cases h
theorem env_mem : ∀ {E : Env} {t : Nat} {g d}, E.get t = some (g, d) → (t, g, d) ∈ E
 | [], _, _, _, h => by cases h
 | (u, g0, d0) :: E, t, g, d, h => by
  simp only [Env.get] at h
  cases hb : Nat.beq u t with
  | true =>
   rw [hb] at h
   simp only [cond_true, Option.some.injEq, Prod.mk.injEq] at h
   obtain ⟨rfl, rfl⟩ := h
   rw [Nat.eq_of_beq_eq_true hb]
   exact List.mem_cons_self
  | false =>
   rw [hb] at h
   exact List.mem_cons_of_mem _ (env_mem h)
theorem scalE_sle {F F' : PHeap} {γ γ' : Gm} {E : Env} {a : Act} (h : scalE E = true) (hE : SLE F γ E a) : SLE F' γ' E a := by
 intro t g d hg
 obtain ⟨h1, h2⟩ := hE t g d hg
 have hs := List.all_eq_true.1 h _ (env_mem hg)
 exact ⟨fun hon => let ⟨v, k1, k2⟩ := h1 hon; ⟨v, k1, scal_rel hs k2⟩, h2⟩
theorem env_app : ∀ {E E2 : Env} {t : Nat} {x}, (E ++ E2).get t = some x → E.get t = some x ∨ E2.get t = some x
 | [], _, _, _, h => .inr h
 | (u, g0, d0) :: E, E2, t, x, h => by
  simp only [List.cons_append, Env.get] at h ⊢
  cases hb : Nat.beq u t with
  | true => rw [hb] at h; exact .inl h
  | false => rw [hb] at h; exact env_app h
theorem sle_app {F : PHeap} {γ : Gm} {E E2 : Env} {a : Act} (h1 : SLE F γ E a) (h2 : SLE F γ E2 a) : SLE F γ (E ++ E2) a := by
 intro t g d hg
 rcases env_app hg with h | h
 ·exact h1 t g d h
 ·exact h2 t g d h
theorem sle_cons {F : PHeap} {γ : Gm} {E : Env} {a : Act} {t : Nat} {d : D} {v : Value} (hv : a.tmps[t]? = some v) (hr : RelV F γ d v) (h : SLE F γ E a) : SLE F γ ((t, none, d) :: E) a := by
 intro u g d0 hu
 simp only [Env.get] at hu
 cases hb : Nat.beq t u with
 | true =>
  rw [hb] at hu
  simp only [cond_true, Option.some.injEq, Prod.mk.injEq] at hu
  obtain ⟨rfl, rfl⟩ := hu
  rw [← Nat.eq_of_beq_eq_true hb]
  exact ⟨fun _ => ⟨v, hv, hr⟩, fun hn => absurd trivial hn⟩
 | false => rw [hb] at hu; exact h u g d0 hu
theorem sle_kept {F : PHeap} {γ : Gm} {E E2 : Env} {a a' : Act} {ks : List Nat} (h : proj E ks = some E2) (hk : ∀ t ∈ ks, a'.tmps[t]? = a.tmps[t]?) (hE : SLE F γ E a) : SLE F γ E2 a' := by
 have mem : ∀ {ks : List Nat} {E2 : Env} {t g d}, proj E ks = some E2 → E2.get t = some (g, d) → t ∈ ks := by
  intro ks
  induction ks with
  | nil =>
   intro E2 t g d h hg
   simp only [proj, Option.some.injEq] at h
   subst h; cases hg
  | cons u ks ih =>
   intro E2 t g d h hg
   simp only [proj] at h
   split at h
   ·rename_i d0 r h1 h2
    simp only [Option.some.injEq] at h
    subst h
    simp only [Env.get] at hg
    cases hb : Nat.beq u t with
    | true => rw [Nat.eq_of_beq_eq_true hb]; exact List.mem_cons_self
    | false => rw [hb] at hg; exact List.mem_cons_of_mem _ (ih h2 hg)
   ·cases h
 intro t g d hg
 obtain ⟨h1, h2⟩ := hE t g d (proj_get h hg)
 have hm := hk t (mem h hg)
 exact ⟨fun hon => let ⟨v, k1, k2⟩ := h1 hon; ⟨v, hm.trans k1, k2⟩, fun hon => hm.trans (h2 hon)⟩
/-! ### Rules -/
section
variable {P : Program} {N : Nat} {F : PHeap} {E E' E2 E3 : Env} {G G' : World → Prop} {Q : Exit → Act → World → Prop}
theorem tqg_read {l : List Oper} {id : Nat} {vc} (t1 : Nat) (d0 d1 : D) (F1 : World → PHeap) (hs : List (Nat × D)) (ts ks : List Nat) (h0 : E.get t1 = some (none, d0)) (h : regQ P N l [] hs ts ((t1, none, d1) :: E) = some (vc, E')) (hvc : all vc) (hsc : scalE E' = true)
  (hkp : keepsB l ks = true) (hp : proj E ks = some E2) (hF : ∀ w, Sub F w → G w → Sub (F1 w) w ∧ (∀ b c, F b = some c → F1 w b = some c) ∧ ∀ v, RelV F noG d0 v → RelV (F1 w) noG d1 v)
  (hk : ∀ a w, QS N F (E' ++ E2) G a w → Q .normal a w) : TrQ P N F (.region id l.toArray false) E G Q := by
 intro a w hS
 obtain ⟨f1, f2, f3⟩ := hF w hS.s hS.g
 unfold regQ at h
 split at h
 ·rename_i vc1 E1 h1
  split at h
  ·rename_i E4 h4
   simp only [Option.some.injEq, Prod.mk.injEq] at h
   obtain ⟨rfl, rfl⟩ := h
   refine wp_region_lit ?_
   obtain ⟨v, v1, v2⟩ := (hS.e _ _ _ h0).1 trivial
   have hE1 : SLE (F1 w) noG ((t1, none, d1) :: E) a := sle_cons v1 (f3 v v2) (sle_mono hS.e f2 fun _ _ x => x)
   have := runQ_keep (P := P) (ks := ks) (rest := []) (Q := Q) (qs_slh (P := P) (N := N) f1) hE1 hS.n h1 hvc hkp fun a' k1 k2 k3 k4 => (show Q .normal a' w from hk a' w ⟨sle_app (scalE_sle hsc (sle_proj h4 k1)) (sle_kept hp k4 hS.e), k2, k3.trans hS.d, hS.s, hS.g⟩)
   rw [List.append_nil] at this
   exact this
  ·cases h
 ·cases h
structure Wrote (r : Nat) (w w' : World) : Prop where
 os : w'.os = w.os
 tape : w'.tape = w.tape
 output : w'.output = w.output
 size : w.heap.size ≤ w'.heap.size
 block : ∀ b, b < w.heap.size → b ≠ r → w'.heap[b]? = w.heap[b]?
def rowO (e : TypeId) (m : Nat) (f : Nat → Value) : O := .arr e 1 m (fun i => .p (.v (f i)))
theorem slh_row {e n g rb len f w} (hR : Rows F e n g rb len f w) (hs : Sub F w) {k : Nat} (hk : k < n) : SLH ⟨P, w, F, [g k], N⟩ F (fun i => if i = 0 then some (g k) else none) [rowO e (len k) (f k)] w where
 sub := hs
 ext := fun _ _ => rfl
 top := fun i hi => by
  simp only [List.length_cons, List.length_nil] at hi
  rw [if_neg (by omega)]
 free := fun i hi => by
  cases i with
  | zero => cases hi
  | succ i => simp at hi
 obj := fun i o v ho hv => by
  cases i with
  | zero =>
   cases ho
   cases hv
   exact (hR.row k hk).mono (fun _ _ h => by cases h) (fun _ _ h => by cases h)
  | succ i => simp at ho
 apart := fun i o v b ho _ hv hb => by
  cases i with
  | zero =>
   cases hv
   rw [hR.blk k hk] at hb
   cases hb
   obtain ⟨c, cap, _, h2, _⟩ := hR.cells hk
   exact ⟨hR.out k hk, (Array.getElem?_eq_some_iff.1 h2).1, fun h => by simp at h⟩
  | succ i => simp at ho
 given := fun i hi => by
  simp only [List.length_cons, List.length_nil] at hi
  obtain rfl : i = 0 := by omega
  rfl
 dis := fun i j o o' v v' b h1 h2 hij _ _ _ _ _ => by
  cases i with
  | zero =>
   cases j with
   | zero => exact absurd rfl hij
   | succ j => simp at h2
  | succ i => simp at h1
 os := rfl
 tape := rfl
 output := rfl
 grows := Nat.le_refl _
 block := fun _ _ _ => rfl
theorem Rows.wrote {e n g rb len f w w'} (hR : Rows F e n g rb len f w) {k : Nat} (hk : k < n) {f' : Nat → Value} (hw : Wrote (rb k) w w') (h : RelO noF noG w' (rowO e (len k) f') (g k)) : Rows F e n g rb len (upd f k f') w' where
 row := fun j hj => by
  unfold upd
  by_cases hjk : j = k
  ·subst hjk
   rw [if_pos rfl]; exact h
  ·rw [if_neg hjk]
   refine (hR.row j hj).same fun b hb => ?_
   rw [hR.blk j hj] at hb
   cases hb
   obtain ⟨c, cap, _, h2, _⟩ := hR.cells hj
   exact hw.block _ (Array.getElem?_eq_some_iff.1 h2).1 fun e => hjk (hR.inj j k hj hk e)
 blk := hR.blk
 inj := hR.inj
 out := hR.out
theorem sub_wrote {e n g rb len f w w'} (hR : Rows F e n g rb len f w) {k : Nat} (hk : k < n) (hs : Sub F w) (hw : Wrote (rb k) w w') : Sub F w' := fun b c hb => by
 obtain ⟨T, fz, h1⟩ := hs b c hb
 refine ⟨T, fz, ?_⟩
 rw [hw.block b (Array.getElem?_eq_some_iff.1 h1).1 fun e => ?_]
 ·exact h1
 ·rw [e, hR.out k hk] at hb
  cases hb
theorem relO_scal {F' : PHeap} {γ' : Gm} {w : World} {e m : Nat} {f2 : Nat → D} {f' : Nat → Value} {v : Value} (h : RelO F' γ' w (.arr e 1 m f2) v) (hf : ∀ i, i < m → f2 i = .p (.v (f' i))) : RelO noF noG w (rowO e m f') v := by
 cases h with
 | arr0 => exact .arr0
 | arr a1 a2 a3 a4 a5 =>
  refine .arr a1 a2 a3 a4 fun i hi => ?_
  have := a5 i hi
  rw [hf i hi] at this
  generalize (Array.toList _ |>.drop (i * 1)).take 1 = cs at this ⊢
  cases this with
  | p this => cases this with | v h => exact .p (.v h)
theorem tqg_store {l : List Oper} {id : Nat} {vc1 vc2 E1 f2} {e n g rb len f} {f' : Nat → Value} (n1 tR k : Nat) (hs hs2 : List (Nat × D)) (us ks : List Nat)
  (h1 : (run P 1 N l.toArray hs 0 (l.take n1) E [rowO e (len k) (f k)]).bind (fun q => (proj q.2.1 us).map fun x => (q.1, x, q.2.2)) = some (vc1, E1, [rowO e (len k) (f k)])) (hvc1 : all vc1) (hR : E1.get tR = some (none, .p (.v (g k)))) (hkn : k < n)
  (h2 : (run P 1 N l.toArray hs2 n1 (l.drop n1) ((tR, none, .own 0) :: E1) [rowO e (len k) (f k)]).map (fun q => (q.1, q.2.2)) = some (vc2, [.arr e 1 (len k) f2])) (hvc2 : all vc2) (hf2 : ∀ i, i < len k → f2 i = .p (.v (f' i)))
  (hkp : keepsB l ks = true) (hp : proj E ks = some E3) (hG : ∀ w, G w → Rows F e n g rb len f w)
  (hG' : ∀ w w', G w → Wrote (rb k) w w' → Sub F w' → Rows F e n g rb len (upd f k f') w' → G' w') (hk : ∀ a w, QS N F E3 G' a w → Q .normal a w) : TrQ P N F (.region id l.toArray false) E G Q := by
 intro a w hS
 have g1 := hS.s
 have g2 := hG w hS.g
 cases hr1 : run P 1 N l.toArray hs 0 (l.take n1) E [rowO e (len k) (f k)] with
 | none => rw [hr1] at h1; cases h1
 | some q1 =>
 obtain ⟨va, Ea, Ha⟩ := q1
 rw [hr1] at h1
 simp only [Option.bind_some, Option.map_eq_some_iff, Prod.mk.injEq] at h1
 obtain ⟨E1', hpj, rfl, rfl, rfl⟩ := h1
 cases hr2 : run P 1 N l.toArray hs2 n1 (l.drop n1) ((tR, none, .own 0) :: E1') [rowO e (len k) (f k)] with
 | none => rw [hr2] at h2; cases h2
 | some q2 =>
 obtain ⟨vb, Eb, Hb⟩ := q2
 rw [hr2] at h2
 simp only [Option.map_some, Option.some.injEq, Prod.mk.injEq] at h2
 obtain ⟨rfl, rfl⟩ := h2
 refine wp_region_lit ?_
 have hkp2 : keepsB (l.take n1) ks = true ∧ keepsB (l.drop n1) ks = true := by
  have : keepsB (l.take n1 ++ l.drop n1) ks = true := by rw [List.take_append_drop]; exact hkp
  unfold keepsB at this ⊢
  rw [List.all_append, Bool.and_eq_true] at this
  exact this
 have hSL : SL ⟨P, w, F, [g k], N⟩ E [rowO e (len k) (f k)] a w := ⟨⟨F, _, slh_row g2 g1 hkn, sle_mono hS.e (fun _ _ h => h) (fun _ _ h => by cases h)⟩, hS.n, hS.d⟩
 have key : wpList P l.toArray Q (l.take n1 ++ (l.drop n1 ++ [])) a w := by
  refine run_keep (C := ⟨P, w, F, [g k], N⟩) (ks := ks) hSL hr1 hvc1 hkp2.1 fun a1 w1 hS1 hk1 => ?_
  have hS1' : SL ⟨P, w, F, [g k], N⟩ ((tR, none, .own 0) :: E1') [rowO e (len k) (f k)] a1 w1 := by
   obtain ⟨⟨F1, γ1, s1, s2⟩, s3, s4⟩ := hS1
   obtain ⟨v, v1, v2⟩ := (s2 _ _ _ (proj_get hpj hR)).1 trivial
   have hv := v_val v2
   subst hv
   have hg0 : γ1 0 = some (g k) := s1.given 0 (by simp)
   have hone : (g k).oneCell' = true := by
    obtain ⟨c, cap, e1, _⟩ := g2.cells hkn
    rw [e1]; rfl
   exact ⟨⟨F1, γ1, s1, sle_cons v1 (.one rfl (.own hg0 hone)) (sle_proj hpj s2)⟩, s3, s4⟩
  refine run_keep (C := ⟨P, w, F, [g k], N⟩) (ks := ks) hS1' hr2 hvc2 hkp2.2 fun a2 w2 hS2 hk2 => (show Q .normal a2 w2 from ?_)
  obtain ⟨⟨F2, γ2, s1, s2⟩, s3, s4⟩ := hS2
  have hW : Wrote (rb k) w w2 := ⟨s1.os, s1.tape, s1.output, s1.grows, fun b hb hne => s1.block b hb fun v hv => by
   simp only [List.mem_singleton] at hv
   subst hv
   rw [g2.blk k hkn]
   exact fun e => hne (Option.some.inj e).symm⟩
  have hO := relO_scal (s1.obj 0 _ (g k) rfl (s1.given 0 (by simp))) hf2
  have hsub := sub_wrote g2 hkn g1 hW
  exact hk a2 w2 ⟨sle_kept hp (fun t ht => (hk2 t ht).trans (hk1 t ht)) hS.e, s3, s4, hsub, hG' w w2 hS.g hW hsub (g2.wrote hkn hW hO)⟩
 rw [List.append_nil, List.take_append_drop] at key
 exact key
end
end Go.Eng
namespace Go.Eng
open Go.RowKit
section
variable {P : Program} {N : Nat} {F F2 : PHeap} {E E' E2 : Env} {G G2 : World → Prop} {Q : Exit → Act → World → Prop}
theorem tq_callF {l : List Oper} {id : Nat} {vc1 E1} {o : Oper} {f : FuncId} {args : Array Operand} {ts : Array TypeId} {t : Nat} (n : Nat) (hs : List (Nat × D)) (us : List Nat)
  (h1 : (runQ P N l.toArray [] hs 0 (l.take n) E).bind (fun q => (proj q.2 us).map fun e => (q.1, e)) = some (vc1, E1)) (hvc1 : all vc1) (hn : l[n]? = some o) (ho : o.op = .call ⟨.value (.func f), args, ts⟩) (hgd : o.guard = none) (hd : o.dst = some t) (hf : callable P f = true)
  (R : Value → World → Prop) (hcall : ∀ a w, QS N F E1 G a w → Calls P f (args.map a.eval) w fun e w' => ∃ v, e = .returned v ∧ R v w')
  (hk : ∀ a v w', SLE F noG E1 a → a.tmps.size = N → a.defers = [] → R v w' → wpList P l.toArray Q (l.drop (n + 1)) (a.put (some t) v) w') : TrQ P N F (.region id l.toArray false) E G Q := by
 intro a w hS
 cases hr : runQ P N l.toArray [] hs 0 (l.take n) E with
 | none => rw [hr] at h1; cases h1
 | some q =>
 obtain ⟨va, Ea⟩ := q
 rw [hr] at h1
 simp only [Option.bind_some, Option.map_eq_some_iff, Prod.mk.injEq] at h1
 obtain ⟨E1', hpj, rfl, rfl⟩ := h1
 refine wp_region_lit ?_
 have hdr : l.drop n = o :: l.drop (n + 1) := by
  obtain ⟨hlt, hget⟩ := List.getElem?_eq_some_iff.1 hn
  rw [List.drop_eq_getElem_cons hlt, hget]
 have key : wpList P l.toArray Q (l.take n ++ l.drop n) a w := by
  refine runQ_keep (P := P) (ks := []) (qs_slh (P := P) (N := N) hS.s) hS.e hS.n hr hvc1 (by
   unfold keepsB
   rw [List.all_eq_true]
   intro x _
   split <;> rfl) fun a' k1 k2 k3 _ => ?_
  have hS' : QS N F E1' G a' w := ⟨sle_proj hpj k1, k2, k3.trans hS.d, hS.s, hS.g⟩
  rw [hdr]
  have hw : Region.wanted o (yielded l.toArray a'.tmps) = true := by simp [Region.wanted, hgd]
  unfold wpList
  rw [if_pos hw]
  refine .inl ?_
  unfold Oper.wp
  rw [resolve_call ho rfl hf w]
  refine (hcall a' w hS').mono ?_
  rintro e w' ⟨v, rfl, hR⟩
  have := hk a' v w' hS'.e k2 hS'.d hR
  rw [← hd] at this
  exact this
 rw [List.take_append_drop] at key
 exact key
theorem suffix_q {l : List Oper} {n : Nat} {vc} {E1 : Env} {t : Nat} {d : D} {a : Act} {v : Value} {w : World} (hs : List (Nat × D)) (us : List Nat) (h : (runQ P N l.toArray [] hs (n + 1) (l.drop (n + 1)) ((t, none, d) :: E1)).bind (fun q => (proj q.2 us).map fun e => (q.1, e)) = some (vc, E')) (hvc : all vc)
  (hdk : dstOk N (some t) = true) (hE : SLE F noG E1 a) (hN : a.tmps.size = N) (hD : a.defers = []) (hF : ∀ b c, F b = some c → F2 b = some c) (hsub : Sub F2 w) (hv : RelV F2 noG d v) (hG : G2 w)
  (hk : ∀ a w, QS N F2 E' G2 a w → Q .normal a w) : wpList P l.toArray Q (l.drop (n + 1)) (a.put (some t) v) w := by
 cases hr : runQ P N l.toArray [] hs (n + 1) (l.drop (n + 1)) ((t, none, d) :: E1) with
 | none => rw [hr] at h; cases h
 | some q =>
 obtain ⟨va, Ea⟩ := q
 rw [hr] at h
 simp only [Option.bind_some, Option.map_eq_some_iff, Prod.mk.injEq] at h
 obtain ⟨E1', hpj, rfl, rfl⟩ := h
 have hE2 : SLE F2 noG ((t, none, d) :: E1) (a.put (some t) v) := sle_put (dst := some t) (e := none) (sle_mono hE hF fun _ _ x => x) hN hdk (fun _ => hv) (fun h => absurd trivial h)
 exact runQ_plain (qs_slh (P := P) (N := N) hsub) hE2 (by rw [put_size]; exact hN) hr hvc fun a' k1 k2 k3 => hk a' w ⟨sle_proj hpj k1, k2, (k3.trans put_defers).trans hD, hsub, hG⟩
end
/-! ### New slices of slices -/
def addO (F : PHeap) (x : Value) (w : World) : PHeap := fun b => if blk x = some b then (match w.heap[b]? with
 | some (.cells c _ _) => some c
 | _ => none) else F b
structure NewGrid (F : PHeap) (w w' : World) (x : Value) (T e n : Nat) (g : Nat → Value) (rb : Nat → Nat) (len : Nat → Nat) (f : Nat → Nat → Value) : Prop where
 grew : Grew w w'
 sub : Sub F w'
 rows : Rows F e n g rb len f w'
 new : ∀ k, k < n → w.heap.size ≤ rb k
 outer : RelO noF noG w' (.arr T 1 n (fun j => .p (.v (g j)))) x
 apart : ∀ b, blk x = some b → w.heap.size ≤ b ∧ F b = none ∧ ∀ k, k < n → rb k ≠ b
section
variable {F : PHeap} {w w' : World} {x : Value} {T e n : Nat} {g : Nat → Value} {rb : Nat → Nat} {len : Nat → Nat} {f : Nat → Nat → Value}
theorem NewGrid.ge (h : NewGrid F w w' x T e n g rb len f) : ∀ b c, F b = some c → addO F x w' b = some c := by
 intro b c hb
 unfold addO
 rw [if_neg]
 ·exact hb
 ·intro hx
  rw [(h.apart b hx).2.1] at hb
  cases hb
theorem NewGrid.sub' (h : NewGrid F w w' x T e n g rb len f) : Sub (addO F x w') w' := by
 intro b c hb
 unfold addO at hb
 split at hb
 ·split at hb
  ·rename_i c' T z hc
   cases hb
   exact ⟨T, z, hc⟩
  ·cases hb
 ·exact h.sub b c hb
theorem NewGrid.rows' (h : NewGrid F w w' x T e n g rb len f) : Rows (addO F x w') e n g rb len f w' where
 row := h.rows.row
 blk := h.rows.blk
 inj := h.rows.inj
 out := fun k hk => by
  unfold addO
  rw [if_neg]
  ·exact h.rows.out k hk
  ·intro hx
   exact (h.apart _ hx).2.2 k hk rfl
theorem NewGrid.rest (h : NewGrid F w w' x T e n g rb len f) : RelP (addO F x w') (.lst 1 n (fun k => .v (g k))) [x] := by
 have h1 := h.outer
 have h2 : ∀ r, blk x = some r → ∀ c T' z, w'.heap[r]? = some (.cells c T' z) → addO F x w' r = some c := fun r hr c T' z hc => by
  unfold addO
  rw [if_pos hr, hc]
 cases h1 with
 | arr0 => exact .lst0
 | @arr _ _ _ _ b cap c a1 a2 a3 a4 a5 =>
  refine .lst (h2 b rfl c _ _ a1) a2 (by omega) fun i hi => ?_
  have := a5 i hi
  rw [Nat.zero_add]
  cases this with
  | p this => exact this.mono fun b c h => by cases h
structure WroteAll (n : Nat) (rb : Nat → Nat) (w w' : World) : Prop where
 os : w'.os = w.os
 tape : w'.tape = w.tape
 output : w'.output = w.output
 size : w.heap.size ≤ w'.heap.size
 block : ∀ b, b < w.heap.size → (∀ k, k < n → rb k ≠ b) → w'.heap[b]? = w.heap[b]?
theorem WroteAll.refl (n : Nat) (rb : Nat → Nat) (w : World) : WroteAll n rb w w := ⟨rfl, rfl, rfl, Nat.le_refl _, fun _ _ _ => rfl⟩
theorem WroteAll.next {w0 : World} {k : Nat} (h : WroteAll n rb w0 w) (hk : k < n) (h' : Wrote (rb k) w w') : WroteAll n rb w0 w' :=
 ⟨h'.os.trans h.os, h'.tape.trans h.tape, h'.output.trans h.output, Nat.le_trans h.size h'.size, fun b hb hne => (h'.block b (Nat.lt_of_lt_of_le hb h.size) fun e => hne k hk e.symm).trans (h.block b hb hne)⟩
theorem WroteAll.grew {w0 : World} (h0 : Grew w0 w) (hn : ∀ k, k < n → w0.heap.size ≤ rb k) (h : WroteAll n rb w w') : Grew w0 w' :=
 ⟨h.os.trans h0.os, h.tape.trans h0.tape, h.output.trans h0.output, Nat.le_trans h0.size h.size, fun b hb => (h.block b (Nat.lt_of_lt_of_le hb h0.size) fun k hk e => by have := hn k hk; omega).trans (h0.block b hb)⟩
end
/-! ### Rows as lists -/
def GL (n : Nat) (len : Nat → Nat) (X : Nat → Nat → Bool) : List (List Bool) := (List.range n).map fun k => (List.range (len k)).map (X k)
section
variable {n : Nat} {len : Nat → Nat} {X : Nat → Nat → Bool}
theorem GL_len : (GL n len X).length = n := by simp [GL]
theorem GL_row {k : Nat} (hk : k < n) : (GL n len X).getD k [] = (List.range (len k)).map (X k) := by
 simp [GL, List.getD_eq_getElem?_getD, List.getElem?_map, List.getElem?_range hk]
theorem GL_rlen {k : Nat} (hk : k < n) : ((GL n len X).getD k []).length = len k := by
 rw [GL_row hk]; simp
theorem GL_get {k i : Nat} (hk : k < n) (hi : i < len k) : ((GL n len X).getD k []).getD i false = X k i := by
 rw [GL_row hk]
 simp [List.getD_eq_getElem?_getD, List.getElem?_map, List.getElem?_range hi]
abbrev BRows (F : PHeap) (n : Nat) (g : Nat → Value) (rb : Nat → Nat) (len : Nat → Nat) (X : Nat → Nat → Bool) (w : World) : Prop := Rows F 4 n g rb len (fun k i => .bool (X k i)) w
theorem brows_rest {F : PHeap} {g rb w} {xv : Value} (h : BRows F n g rb len X w) (hx : RelP F (.lst 1 n (fun k => .v (g k))) [xv]) : RelP (addW F n rb w) (eL (eL eB 1 false) 1 [] (GL n len X)) [xv] := by
 have h' : Rows F 4 (GL n len X).length g rb (fun k => ((GL n len X).getD k []).length) (fun k i => .bool (((GL n len X).getD k []).getD i false)) w := by
  rw [GL_len]
  refine ⟨fun k hk => ?_, h.blk, h.inj, h.out⟩
  have h1 := h.row k hk
  rw [GL_rlen hk]
  cases hg : g k with
  | slice a m cap =>
   rw [hg] at h1
   exact relO_scal h1 fun i hi => by
    show D.p (.v (.bool (X k i))) = D.p (.v (.bool (((GL n len X).getD k []).getD i false)))
    rw [GL_get hk hi]
  | _ => have := h.blk k hk; rw [hg] at this; first | (cases this; done) | (obtain ⟨c, cap, e1, _⟩ := h.cells hk; rw [hg] at e1; cases e1)
 have := rows_rest (en := Value.bool) (d := false) (gr := GL n len X) h' (by rw [GL_len]; exact hx)
 rw [GL_len] at this
 exact this
theorem read_grid {F : PHeap} {g rb w} (hs : Sub F w) (h : BRows F n g rb len X w) : Sub (addW F n rb w) w ∧ (∀ b c, F b = some c → addW F n rb w b = some c) ∧ ∀ v, RelV F noG (.p (.lst 1 n (fun k => .v (g k)))) v → RelV (addW F n rb w) noG (.p (eL (eL eB 1 false) 1 [] (GL n len X))) v :=
 ⟨addW_sub hs, fun _ _ => addW_ge h, fun v hv => by
  cases hv with
  | many hm => cases hm
  | one _ hv => cases hv with | p hv => exact .one rfl (.p (brows_rest h hv))⟩
theorem BRows.set {F : PHeap} {g rb w} {k i : Nat} (h : Rows F 4 n g rb len (upd (fun k i => .bool (X k i)) k (fun j => .bool (upd (X k) i true j))) w) : BRows F n g rb len (upd X k (upd (X k) i true)) w := by
 have e : upd (fun k i => Value.bool (X k i)) k (fun j => .bool (upd (X k) i true j)) = fun k' j => .bool (upd X k (upd (X k) i true) k' j) := by
  funext k' j
  unfold upd
  by_cases hk : k' = k
  ·rw [if_pos hk, if_pos hk]
  ·rw [if_neg hk, if_neg hk]
 rw [e] at h
 exact h
end
end Go.Eng
