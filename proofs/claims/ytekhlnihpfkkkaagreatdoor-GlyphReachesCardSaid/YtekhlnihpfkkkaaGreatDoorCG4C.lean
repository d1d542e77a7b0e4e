/-
  GlyphReaches: whatever the input, the call returns true, and each argument reads afterwards as it read before; tied to the program's text. (Part 4 of 6 of its proof.)
-/
import Derived.Test.YtekhlnihpfkkkaaGreatDoorCG4B
set_option linter.unusedSimpArgs false
set_option linter.unusedVariables false
namespace Go.Proofs.YtekhlnihpfkkkaaGreatDoor
open Go.Eng
def hUs : FuncId → FH := fun f => bif Nat.beq f 17 then { rounds := 60, reg := fun _ => { g := 1, lit := true }, fr := [4] } else { rounds := 60, reg := fun _ => { g := 1, lit := true } }
set_option maxRecDepth 100000 in
theorem used2_ok : Pure Tryz.prog 17 [eFn exF, eI 2] (.p (eIs [1, 2])) := by
 let K : D → Prop := fun d => endL (.p (eIs [1, 2])) d []
 refine pure_byC (WTop_sound (h := hUs) (plug_sound (g := 40) pKeys_sound (WCall_sound Tryz.prog 0 hUs 20))) (p :=
  ∃ (ks : List Int), (List.Pairwise (fun (x1 x2 : Int) => x1 < x2) ks ∧ (∀ (k : Int), List.Mem k ks → (-9223372036854775808 : Int) ≤ k ∧ k < (9223372036854775808 : Int)) ∧ ks.length ≤ 1048576 ∧ ∀ (k : Int), (setMap (setMap (fun (x : List Int) => none) [Int.ofNat 2] (PV.v (Value.bool true))) [Int.ofNat 1] (PV.v (Value.bool true)) [k]).isSome = true ↔ k ∈ ks) ∧ (∀ (j : Nat), let a2_0 : D := vint IntKind.i64 (ks.getD j (0 : Int)); j < ks.length → a2_0 = D.p a2_0.unP) ∧ K (D.p (PV.lst 1 ks.length fun (j : Nat) => (vint IntKind.i64 (ks.getD j (0 : Int))).unP))) (by kernel_rfl) ?_
 refine ⟨[1, 2], ⟨by simp, fun k hk => ?_, by decide, fun k => ?_⟩, fun j hj => ?_, ?_⟩
 ·have hk : k ∈ [(1 : Int), 2] := hk
  simp only [List.mem_cons, List.not_mem_nil, or_false] at hk; omega
 ·show (setMap (setMap (fun _ => none) [2] (.v (.bool true))) [1] (.v (.bool true)) [k]).isSome = true ↔ _
  simp only [setMap, List.mem_cons, List.not_mem_nil, or_false]
  by_cases h1 : k = 1
  ·subst h1; simp
  ·by_cases h2 : k = 2
   ·subst h2; simp
   ·have e1 : (k == 1) = false := by simpa using h1
    have e2 : (k == 2) = false := by simpa using h2
    simp [h1, h2, e1, e2]
 ·rfl
 ·exact ⟨rfl, fun j hj => rfl⟩
set_option maxRecDepth 100000 in
theorem used3_ok : Pure Tryz.prog 17 [eFn exF, eI 3] (.p (eIs [])) := by
 let K : D → Prop := fun d => endL (.p (eIs [])) d []
 refine pure_byL 20 hUs (p :=
  K (D.p (PV.v (Value.slice none 0 0)))) (by kernel_rfl) ?_
 exact rfl
end Go.Proofs.YtekhlnihpfkkkaaGreatDoor
namespace Go.Proofs.YtekhlnihpfkkkaaGreatDoor
open Go.Eng
def hp1 (n : Int) : List Tn := [(10, n, 0), (8, 0, 0), (12, n, 0)]
def hp2 (n : Int) : List Tn := [(9, 0, 0), (1, 8, 0), (3, 0, 0), (14, 3, 0), (11, n, 0), (8, 0, 0), (13, n, 0)]
def hp3 (n : Int) : List Tn := [(15, 2, 4), (11, n, 0), (1, 16, 0), (2, 0, 0), (13, n, 0)]
def eRch (r : List Int) : PV := .lst 1 r.length fun j => (nthD (r.map fun x => vint .i64 x) j).unP
def eFacts (c d : Int) (r : List Int) : PV := .agg [eI c, eI d, eRch r]
def pcVer : FuncId → List PV → Option D := fun f ar => bif Nat.beq f 57 then (match ar with
  | [.agg [.v (.int _ c), _, _]] => some (vbool (decide (10 ≤ c) && decide (c ≤ 13)))
  | _ => none) else bif Nat.beq f 35 then (match ar with
  | [x] => some (.p x)
  | _ => none) else none
def rgVer (f r : Nat) : RH :=
 bif Nat.beq f 10 && Nat.beq r 12 then { g := 1, frz := [6] }
 else bif Nat.beq f 33 && Nat.beq r 19 then { sh := none, g := 1, hs := [(5, vbool false), (13, vbool false)] }
 else bif Nat.beq f 33 && Nat.beq r 24 then { g := 1, zo := [(1, [1])] }
 else bif Nat.beq f 33 && Nat.beq r 25 then { g := 1, zo := [(1, [2])] }
 else bif Nat.beq f 33 && Nat.beq r 27 then { g := 1, za := List.range 40 }
 else { g := 1 }
def hVer : FuncId → FH := fun f => { rounds := 10, pc := pcVer, reg := rgVer f }
set_option maxRecDepth 100000 in
theorem compact_ok (f : Nat → PV) : Pure Tryz.prog 35 [.lst 1 1 f] (.p (.lst 1 1 f)) := by
 let K : KV := endP (.p (.lst 1 1 f))
 refine pure_by 20 hVer (p :=
  K (D.p (PV.lst 1 1 f)) []) (by kernel_rfl) ?_
 exact endP_lst (H := []) rfl fun _ _ => rfl
set_option maxRecDepth 100000 in
theorem compact_nil : Pure Tryz.prog 35 [.v (.slice none 0 0)] (.p (.v (.slice none 0 0))) := by
 let K : KV := endP (.p (.v (.slice none 0 0)))
 refine pure_by 20 hVer (p :=
  K (D.p (PV.v (Value.slice none 0 0))) []) (by kernel_rfl) ?_
 exact (rfl : (D.p (.v (.slice none 0 0))) = _)
set_option maxRecDepth 100000 in
theorem verify1_ok (n points : Int) (h0 : 0 ≤ n) (h1 : n < points) : Pure Tryz.prog 10 [eTs (hp1 n), eI points] (.tup [.p (eFacts 3 1 [n]), vint .i64 0]) := by
 let K : KV := endP (.tup [.p (eFacts 3 1 [n]), vint .i64 0])
 refine pure_by 20 hVer (p :=
  let a0_31 : PV := PV.v (Value.int IntKind.i64 (0 : Int)); let a0_30 : PV := PV.v (Value.int IntKind.i64 (1 : Int)); let a0_29 : PV := PV.v (Value.int IntKind.i64 (Int.ofNat 1)); let a0_28 : Tn := (hp1 n).getD 0 tn0; let a0_27 : Tn := (hp1 n).getD 2 tn0; let a0_26 : Tn := (hp1 n).getD 1 tn0; let a0_25 : List PV := [a0_30]; let a0_24 : Int × Int := a0_26.snd; let a0_23 : Int := a0_28.fst; let a0_22 : Int × Int := a0_27.snd; let a0_21 : Int := a0_27.fst; let a0_20 : Int := a0_26.fst; let a0_19 : Int × Int := a0_28.snd; let a0_18 : Int := a0_22.fst; let a0_17 : Int := a0_24.fst; let a0_16 : Int := a0_19.fst; let a0_15 : PV := PV.v (Value.int IntKind.i64 a0_18); let a0_14 : List UInt8 := [(101 : UInt8), (116 : UInt8), (120 : UInt8)]; let a0_13 : List D := [D.p a0_15]; let a0_12 : PV := PV.lst 1 1 fun (j : Nat) => (nthD a0_13 j).unP; let a0_11 : D := D.p a0_12; let a0_10 : List PV := [a0_12]; let a0_9 : O := O.box (D.p (PV.agg [PV.s ((115 : UInt8) :: a0_14), PV.v (Value.bool true), PV.v (Value.bool false), a0_30, a0_31])); let a0_8 : O := O.box (D.p (PV.agg (PV.s ((103 : UInt8) :: a0_14) :: PV.v (Value.bool true) :: PV.v (Value.bool false) :: a0_31 :: a0_25))); let a0_7 : PV := PV.agg [PV.v (Value.int IntKind.i64 a0_21), a0_15, PV.v (Value.int IntKind.i64 a0_22.snd)]; let a0_6 : D := D.p (PV.agg (PV.v (Value.int IntKind.i64 (Int.ofNat 3)) :: a0_29 :: a0_10)); let a0_5 : PV := PV.agg [PV.v (Value.int IntKind.i64 a0_23), PV.v (Value.int IntKind.i64 a0_16), PV.v (Value.int IntKind.i64 a0_19.snd)]; let a0_4 : PV := PV.agg [PV.v (Value.int IntKind.i64 a0_20), PV.v (Value.int IntKind.i64 a0_17), PV.v (Value.int IntKind.i64 a0_24.snd)]; let a0_3 : O := O.box (D.p a0_7); let a0_2 : O := O.box (D.p a0_4); let a0_1 : O := O.box (D.p a0_5); let a0_0 : O := O.box (D.p (PV.agg (PV.s [(114 : UInt8), (111 : UInt8), (117 : UInt8), (110 : UInt8), (100 : UInt8)] :: PV.v (Value.bool false) :: PV.v (Value.bool false) :: a0_30 :: a0_25))); Eng.Pure Tryz.prog 57 [a0_5] (vbool (decide ((10 : Int) ≤ a0_23) && decide (a0_23 ≤ (13 : Int)))) ∧ ((decide ((10 : Int) ≤ a0_23) && decide (a0_23 ≤ (13 : Int))) = true → (decide ((10 : Int) ≤ a0_23) && decide (a0_23 ≤ (13 : Int))) = true) ∧ ((decide ((10 : Int) ≤ a0_23) && decide (a0_23 ≤ (13 : Int))) = true → (decide ((10 : Int) ≤ a0_23) && decide (a0_23 ≤ (13 : Int))) = true) ∧ ((decide ((10 : Int) ≤ a0_23) && decide (a0_23 ≤ (13 : Int))) = true → decide (a0_16 < (0 : Int)) = false) ∧ ((decide ((10 : Int) ≤ a0_23) && decide (a0_23 ≤ (13 : Int))) = true → (decide ((10 : Int) ≤ a0_23) && decide (a0_23 ≤ (13 : Int))) = true) ∧ ((decide ((10 : Int) ≤ a0_23) && decide (a0_23 ≤ (13 : Int)) && !false) = true → (decide ((10 : Int) ≤ a0_23) && decide (a0_23 ≤ (13 : Int)) && !false) = true) ∧ ((decide ((10 : Int) ≤ a0_23) && decide (a0_23 ≤ (13 : Int)) && !false) = true → (decide ((10 : Int) ≤ a0_23) && decide (a0_23 ≤ (13 : Int)) && !false) = true) ∧ ((decide ((10 : Int) ≤ a0_23) && decide (a0_23 ≤ (13 : Int)) && !false) = true → (decide ((10 : Int) ≤ a0_23) && decide (a0_23 ≤ (13 : Int)) && !false) = true) ∧ ((decide ((10 : Int) ≤ a0_23) && decide (a0_23 ≤ (13 : Int)) && !false) = true → (decide ((10 : Int) ≤ a0_23) && decide (a0_23 ≤ (13 : Int)) && !false) = true) ∧ ((decide ((10 : Int) ≤ a0_23) && decide (a0_23 ≤ (13 : Int)) && !false) = true → (decide ((10 : Int) ≤ a0_23) && decide (a0_23 ≤ (13 : Int)) && !false) = true) ∧ ((decide ((10 : Int) ≤ a0_23) && decide (a0_23 ≤ (13 : Int)) && !false) = true → (decide ((10 : Int) ≤ a0_23) && decide (a0_23 ≤ (13 : Int)) && !false) = true) ∧ ((decide ((10 : Int) ≤ a0_23) && decide (a0_23 ≤ (13 : Int)) && !false) = true → decide (points ≤ a0_16) = false) ∧ ((decide ((10 : Int) ≤ a0_23) && decide (a0_23 ≤ (13 : Int))) = true → (decide ((10 : Int) ≤ a0_23) && decide (a0_23 ≤ (13 : Int))) = true → (decide ((10 : Int) ≤ a0_23) && decide (a0_23 ≤ (13 : Int))) = true) ∧ ((decide ((10 : Int) ≤ a0_23) && decide (a0_23 ≤ (13 : Int)) && !false) = true → (decide ((10 : Int) ≤ a0_23) && decide (a0_23 ≤ (13 : Int)) && !false) = true) ∧ ((decide ((10 : Int) ≤ a0_23) && decide (a0_23 ≤ (13 : Int))) = true → (decide ((10 : Int) ≤ a0_23) && decide (a0_23 ≤ (13 : Int))) = true) ∧ Eng.Pure Tryz.prog 57 [a0_4] (vbool (decide ((10 : Int) ≤ a0_20) && decide (a0_20 ≤ (13 : Int)))) ∧ ((decide ((10 : Int) ≤ a0_20) && decide (a0_20 ≤ (13 : Int))) = true → (decide ((10 : Int) ≤ a0_20) && decide (a0_20 ≤ (13 : Int))) = true) ∧ ((decide ((10 : Int) ≤ a0_20) && decide (a0_20 ≤ (13 : Int))) = true → (decide ((10 : Int) ≤ a0_20) && decide (a0_20 ≤ (13 : Int))) = true) ∧ ((decide ((10 : Int) ≤ a0_20) && decide (a0_20 ≤ (13 : Int))) = true → decide (a0_17 < (0 : Int)) = false) ∧ ((decide ((10 : Int) ≤ a0_20) && decide (a0_20 ≤ (13 : Int))) = true → (decide ((10 : Int) ≤ a0_20) && decide (a0_20 ≤ (13 : Int))) = true) ∧ ((decide ((10 : Int) ≤ a0_20) && decide (a0_20 ≤ (13 : Int)) && !false) = true → (decide ((10 : Int) ≤ a0_20) && decide (a0_20 ≤ (13 : Int)) && !false) = true) ∧ ((decide ((10 : Int) ≤ a0_20) && decide (a0_20 ≤ (13 : Int)) && !false) = true → (decide ((10 : Int) ≤ a0_20) && decide (a0_20 ≤ (13 : Int)) && !false) = true) ∧ ((decide ((10 : Int) ≤ a0_20) && decide (a0_20 ≤ (13 : Int)) && !false) = true → (decide ((10 : Int) ≤ a0_20) && decide (a0_20 ≤ (13 : Int)) && !false) = true) ∧ ((decide ((10 : Int) ≤ a0_20) && decide (a0_20 ≤ (13 : Int)) && !false) = true → (decide ((10 : Int) ≤ a0_20) && decide (a0_20 ≤ (13 : Int)) && !false) = true) ∧ ((decide ((10 : Int) ≤ a0_20) && decide (a0_20 ≤ (13 : Int)) && !false) = true → (decide ((10 : Int) ≤ a0_20) && decide (a0_20 ≤ (13 : Int)) && !false) = true) ∧ ((decide ((10 : Int) ≤ a0_20) && decide (a0_20 ≤ (13 : Int)) && !false) = true → (decide ((10 : Int) ≤ a0_20) && decide (a0_20 ≤ (13 : Int)) && !false) = true) ∧ ((decide ((10 : Int) ≤ a0_20) && decide (a0_20 ≤ (13 : Int)) && !false) = true → decide (points ≤ a0_17) = false) ∧ ((decide ((10 : Int) ≤ a0_20) && decide (a0_20 ≤ (13 : Int))) = true → (decide ((10 : Int) ≤ a0_20) && decide (a0_20 ≤ (13 : Int))) = true → (decide ((10 : Int) ≤ a0_20) && decide (a0_20 ≤ (13 : Int))) = true) ∧ ((decide ((10 : Int) ≤ a0_20) && decide (a0_20 ≤ (13 : Int)) && !false) = true → (decide ((10 : Int) ≤ a0_20) && decide (a0_20 ≤ (13 : Int)) && !false) = true) ∧ ((decide ((10 : Int) ≤ a0_20) && decide (a0_20 ≤ (13 : Int))) = true → (decide ((10 : Int) ≤ a0_20) && decide (a0_20 ≤ (13 : Int))) = true) ∧ Eng.Pure Tryz.prog 57 [a0_7] (vbool (decide ((10 : Int) ≤ a0_21) && decide (a0_21 ≤ (13 : Int)))) ∧ ((decide ((10 : Int) ≤ a0_21) && decide (a0_21 ≤ (13 : Int))) = true → (decide ((10 : Int) ≤ a0_21) && decide (a0_21 ≤ (13 : Int))) = true) ∧ ((decide ((10 : Int) ≤ a0_21) && decide (a0_21 ≤ (13 : Int))) = true → (decide ((10 : Int) ≤ a0_21) && decide (a0_21 ≤ (13 : Int))) = true) ∧ ((decide ((10 : Int) ≤ a0_21) && decide (a0_21 ≤ (13 : Int))) = true → decide (a0_18 < (0 : Int)) = false) ∧ ((decide ((10 : Int) ≤ a0_21) && decide (a0_21 ≤ (13 : Int))) = true → (decide ((10 : Int) ≤ a0_21) && decide (a0_21 ≤ (13 : Int))) = true) ∧ ((decide ((10 : Int) ≤ a0_21) && decide (a0_21 ≤ (13 : Int)) && !false) = true → (decide ((10 : Int) ≤ a0_21) && decide (a0_21 ≤ (13 : Int)) && !false) = true) ∧ ((decide ((10 : Int) ≤ a0_21) && decide (a0_21 ≤ (13 : Int)) && !false) = true → (decide ((10 : Int) ≤ a0_21) && decide (a0_21 ≤ (13 : Int)) && !false) = true) ∧ ((decide ((10 : Int) ≤ a0_21) && decide (a0_21 ≤ (13 : Int)) && !false) = true → (decide ((10 : Int) ≤ a0_21) && decide (a0_21 ≤ (13 : Int)) && !false) = true) ∧ ((decide ((10 : Int) ≤ a0_21) && decide (a0_21 ≤ (13 : Int)) && !false) = true → (decide ((10 : Int) ≤ a0_21) && decide (a0_21 ≤ (13 : Int)) && !false) = true) ∧ ((decide ((10 : Int) ≤ a0_21) && decide (a0_21 ≤ (13 : Int)) && !false) = true → (decide ((10 : Int) ≤ a0_21) && decide (a0_21 ≤ (13 : Int)) && !false) = true) ∧ ((decide ((10 : Int) ≤ a0_21) && decide (a0_21 ≤ (13 : Int)) && !false) = true → (decide ((10 : Int) ≤ a0_21) && decide (a0_21 ≤ (13 : Int)) && !false) = true) ∧ ((decide ((10 : Int) ≤ a0_21) && decide (a0_21 ≤ (13 : Int)) && !false) = true → decide (points ≤ a0_18) = false) ∧ ((decide ((10 : Int) ≤ a0_21) && decide (a0_21 ≤ (13 : Int))) = true → (decide ((10 : Int) ≤ a0_21) && decide (a0_21 ≤ (13 : Int))) = true → (decide ((10 : Int) ≤ a0_21) && decide (a0_21 ≤ (13 : Int))) = true) ∧ ((decide ((10 : Int) ≤ a0_21) && decide (a0_21 ≤ (13 : Int)) && !false) = true → (decide ((10 : Int) ≤ a0_21) && decide (a0_21 ≤ (13 : Int)) && !false) = true) ∧ ((decide ((10 : Int) ≤ a0_21) && decide (a0_21 ≤ (13 : Int))) = true → (decide ((10 : Int) ≤ a0_21) && decide (a0_21 ≤ (13 : Int))) = true) ∧ (∀ (j : Nat), j < 1 → nthD a0_13 j = D.p (nthD a0_13 j).unP) ∧ Eng.Pure Tryz.prog 35 a0_10 a0_11 ∧ K (D.tup [a0_6, D.p a0_31]) [O.box a0_6, O.box (mkAgg [D.p (PV.v (Value.int IntKind.i64 points)), D.p (PV.v (Value.int IntKind.i64 (Int.ofNat 0))), D.p a0_29, a0_11]), a0_1, a0_1, a0_8, a0_8, a0_2, a0_2, a0_0, a0_0, a0_3, a0_3, a0_9, a0_9, O.arr 3 1 1 (nthD a0_13), O.dead]) (by kernel_rfl) ?_
 have e0 : decide (n < 0) = false := by simp; omega
 have e1 : decide (points ≤ n) = false := by simp; omega
 have hK : ∀ H, K (.tup [.p (eFacts 3 1 [n]), vint .i64 0]) H := fun H => ⟨rfl, rfl, trivial⟩
 repeat' first | exact point_ok _ _ _ | exact hK _ | exact compact_ok _ | exact fun h => h | exact fun _ => e0 | exact fun _ => e1 | exact fun _ h => h | exact fun h => Bool.noConfusion (show false = true from h) | exact fun j hj => (match j, hj with | 0, _ => rfl) | refine And.intro ?_ ?_
set_option maxRecDepth 100000 in
theorem verify2_ok (n points : Int) (h0 : 0 ≤ n) (h1 : n < points) : Pure Tryz.prog 10 [eTs (hp2 n), eI points] (.tup [.p (eFacts 7 2 [n]), vint .i64 0]) := by
 let K : KV := endP (.tup [.p (eFacts 7 2 [n]), vint .i64 0])
 refine pure_by 20 hVer (p :=
  let a0_59 : Tn := (hp2 n).getD 1 tn0; let a0_58 : Tn := (hp2 n).getD 5 tn0; let a0_57 : Tn := (hp2 n).getD 6 tn0; let a0_56 : Tn := (hp2 n).getD 4 tn0; let a0_55 : Tn := (hp2 n).getD 2 tn0; let a0_54 : Tn := (hp2 n).getD 3 tn0; let a0_53 : Tn := (hp2 n).getD 0 tn0; let a0_52 : List PV := [PV.v (Value.int IntKind.i64 (1 : Int))]; let a0_51 : Int := a0_56.fst; let a0_50 : Int × Int := a0_55.snd; let a0_49 : Int × Int := a0_53.snd; let a0_48 : Int × Int := a0_59.snd; let a0_47 : Int := a0_54.fst; let a0_46 : Int × Int := a0_57.snd; let a0_45 : Int := a0_55.fst; let a0_44 : Int := a0_58.fst; let a0_43 : Int := a0_53.fst; let a0_42 : Int × Int := a0_56.snd; let a0_41 : Int × Int := a0_54.snd; let a0_40 : Int := a0_57.fst; let a0_39 : Int := a0_59.fst; let a0_38 : Int × Int := a0_58.snd; let a0_37 : Int := a0_41.fst; let a0_36 : Int := a0_48.fst; let a0_35 : Int := a0_46.fst; let a0_34 : Int := a0_38.fst; let a0_33 : Int := a0_42.fst; let a0_32 : Int := a0_50.fst; let a0_31 : Int := a0_49.fst; let a0_30 : PV := PV.v (Value.int IntKind.i64 a0_35); let a0_29 : List UInt8 := [(101 : UInt8), (116 : UInt8), (121 : UInt8)]; let a0_28 : List D := [D.p a0_30]; let a0_27 : List PV := PV.v (Value.bool false) :: PV.v (Value.int IntKind.i64 (0 : Int)) :: a0_52; let a0_26 : List PV := PV.v (Value.bool true) :: a0_27; let a0_25 : List PV := [PV.v (Value.bool true), PV.v (Value.bool false), PV.v (Value.int IntKind.i64 (1 : Int)), PV.v (Value.int IntKind.i64 (0 : Int))]; let a0_24 : PV := PV.lst 1 1 fun (j : Nat) => (nthD a0_28 j).unP; let a0_23 : D := D.p a0_24; let a0_22 : List PV := [a0_24]; let a0_21 : O := O.box (D.p (PV.agg (PV.s [(105 : UInt8), (102 : UInt8)] :: a0_25))); let a0_20 : O := O.box (D.p (PV.agg (PV.s [(115 : UInt8), (117 : UInt8), (98 : UInt8)] :: PV.v (Value.bool false) :: PV.v (Value.bool false) :: PV.v (Value.int IntKind.i64 (2 : Int)) :: a0_52))); let a0_19 : O := O.box (D.p (PV.agg (PV.s ((103 : UInt8) :: a0_29) :: a0_26))); let a0_18 : O := O.box (D.p (PV.agg (PV.s ((115 : UInt8) :: a0_29) :: a0_25))); let a0_17 : O := O.box (D.p (PV.agg (PV.s [(115 : UInt8), (105 : UInt8), (122 : UInt8), (101 : UInt8)] :: PV.v (Value.bool false) :: a0_27))); let a0_16 : O := O.box (D.p (PV.agg (PV.s [(112 : UInt8), (117 : UInt8), (115 : UInt8), (104 : UInt8)] :: a0_26))); let a0_15 : PV := PV.agg [PV.v (Value.int IntKind.i64 a0_47), PV.v (Value.int IntKind.i64 a0_37), PV.v (Value.int IntKind.i64 a0_41.snd)]; let a0_14 : PV := PV.agg [PV.v (Value.int IntKind.i64 a0_44), PV.v (Value.int IntKind.i64 a0_34), PV.v (Value.int IntKind.i64 a0_38.snd)]; let a0_13 : PV := PV.agg [PV.v (Value.int IntKind.i64 a0_39), PV.v (Value.int IntKind.i64 a0_36), PV.v (Value.int IntKind.i64 a0_48.snd)]; let a0_12 : PV := PV.agg [PV.v (Value.int IntKind.i64 a0_43), PV.v (Value.int IntKind.i64 a0_31), PV.v (Value.int IntKind.i64 a0_49.snd)]; let a0_11 : PV := PV.agg [PV.v (Value.int IntKind.i64 a0_45), PV.v (Value.int IntKind.i64 a0_32), PV.v (Value.int IntKind.i64 a0_50.snd)]; let a0_10 : PV := PV.agg [PV.v (Value.int IntKind.i64 a0_51), PV.v (Value.int IntKind.i64 a0_33), PV.v (Value.int IntKind.i64 a0_42.snd)]; let a0_9 : PV := PV.agg [PV.v (Value.int IntKind.i64 a0_40), a0_30, PV.v (Value.int IntKind.i64 a0_46.snd)]; let a0_8 : D := D.p (PV.agg (PV.v (Value.int IntKind.i64 (Int.ofNat 7)) :: PV.v (Value.int IntKind.i64 (Int.ofNat 2)) :: a0_22)); let a0_7 : O := O.box (D.p a0_12); let a0_6 : O := O.box (D.p a0_13); let a0_5 : O := O.box (D.p a0_9); let a0_4 : O := O.box (D.p a0_14); let a0_3 : O := O.box (D.p a0_15); let a0_2 : O := O.box (D.p a0_11); let a0_1 : O := O.box (D.p a0_10); let a0_0 : O := O.box (D.p (PV.agg (PV.s [(114 : UInt8), (111 : UInt8), (117 : UInt8), (110 : UInt8), (100 : UInt8)] :: PV.v (Value.bool false) :: PV.v (Value.bool false) :: PV.v (Value.int IntKind.i64 (1 : Int)) :: a0_52))); Eng.Pure Tryz.prog 57 [a0_12] (vbool (decide ((10 : Int) ≤ a0_43) && decide (a0_43 ≤ (13 : Int)))) ∧ ((decide ((10 : Int) ≤ a0_43) && decide (a0_43 ≤ (13 : Int))) = true → (decide ((10 : Int) ≤ a0_43) && decide (a0_43 ≤ (13 : Int))) = true) ∧ ((decide ((10 : Int) ≤ a0_43) && decide (a0_43 ≤ (13 : Int))) = true → (decide ((10 : Int) ≤ a0_43) && decide (a0_43 ≤ (13 : Int))) = true) ∧ ((decide ((10 : Int) ≤ a0_43) && decide (a0_43 ≤ (13 : Int))) = true → decide (a0_31 < (0 : Int)) = false) ∧ ((decide ((10 : Int) ≤ a0_43) && decide (a0_43 ≤ (13 : Int))) = true → (decide ((10 : Int) ≤ a0_43) && decide (a0_43 ≤ (13 : Int))) = true) ∧ ((decide ((10 : Int) ≤ a0_43) && decide (a0_43 ≤ (13 : Int)) && !false) = true → (decide ((10 : Int) ≤ a0_43) && decide (a0_43 ≤ (13 : Int)) && !false) = true) ∧ ((decide ((10 : Int) ≤ a0_43) && decide (a0_43 ≤ (13 : Int)) && !false) = true → (decide ((10 : Int) ≤ a0_43) && decide (a0_43 ≤ (13 : Int)) && !false) = true) ∧ ((decide ((10 : Int) ≤ a0_43) && decide (a0_43 ≤ (13 : Int)) && !false) = true → (decide ((10 : Int) ≤ a0_43) && decide (a0_43 ≤ (13 : Int)) && !false) = true) ∧ ((decide ((10 : Int) ≤ a0_43) && decide (a0_43 ≤ (13 : Int)) && !false) = true → (decide ((10 : Int) ≤ a0_43) && decide (a0_43 ≤ (13 : Int)) && !false) = true) ∧ ((decide ((10 : Int) ≤ a0_43) && decide (a0_43 ≤ (13 : Int)) && !false) = true → (decide ((10 : Int) ≤ a0_43) && decide (a0_43 ≤ (13 : Int)) && !false) = true) ∧ ((decide ((10 : Int) ≤ a0_43) && decide (a0_43 ≤ (13 : Int)) && !false) = true → (decide ((10 : Int) ≤ a0_43) && decide (a0_43 ≤ (13 : Int)) && !false) = true) ∧ ((decide ((10 : Int) ≤ a0_43) && decide (a0_43 ≤ (13 : Int)) && !false) = true → decide (points ≤ a0_31) = false) ∧ ((decide ((10 : Int) ≤ a0_43) && decide (a0_43 ≤ (13 : Int))) = true → (decide ((10 : Int) ≤ a0_43) && decide (a0_43 ≤ (13 : Int))) = true → (decide ((10 : Int) ≤ a0_43) && decide (a0_43 ≤ (13 : Int))) = true) ∧ ((decide ((10 : Int) ≤ a0_43) && decide (a0_43 ≤ (13 : Int)) && !false) = true → (decide ((10 : Int) ≤ a0_43) && decide (a0_43 ≤ (13 : Int)) && !false) = true) ∧ ((decide ((10 : Int) ≤ a0_43) && decide (a0_43 ≤ (13 : Int))) = true → (decide ((10 : Int) ≤ a0_43) && decide (a0_43 ≤ (13 : Int))) = true) ∧ Eng.Pure Tryz.prog 57 [a0_13] (vbool (decide ((10 : Int) ≤ a0_39) && decide (a0_39 ≤ (13 : Int)))) ∧ ((decide ((10 : Int) ≤ a0_39) && decide (a0_39 ≤ (13 : Int))) = true → (decide ((10 : Int) ≤ a0_39) && decide (a0_39 ≤ (13 : Int))) = true) ∧ ((decide ((10 : Int) ≤ a0_39) && decide (a0_39 ≤ (13 : Int))) = true → (decide ((10 : Int) ≤ a0_39) && decide (a0_39 ≤ (13 : Int))) = true) ∧ ((decide ((10 : Int) ≤ a0_39) && decide (a0_39 ≤ (13 : Int))) = true → decide (a0_36 < (0 : Int)) = false) ∧ ((decide ((10 : Int) ≤ a0_39) && decide (a0_39 ≤ (13 : Int))) = true → (decide ((10 : Int) ≤ a0_39) && decide (a0_39 ≤ (13 : Int))) = true) ∧ ((decide ((10 : Int) ≤ a0_39) && decide (a0_39 ≤ (13 : Int)) && !false) = true → (decide ((10 : Int) ≤ a0_39) && decide (a0_39 ≤ (13 : Int)) && !false) = true) ∧ ((decide ((10 : Int) ≤ a0_39) && decide (a0_39 ≤ (13 : Int)) && !false) = true → (decide ((10 : Int) ≤ a0_39) && decide (a0_39 ≤ (13 : Int)) && !false) = true) ∧ ((decide ((10 : Int) ≤ a0_39) && decide (a0_39 ≤ (13 : Int)) && !false) = true → (decide ((10 : Int) ≤ a0_39) && decide (a0_39 ≤ (13 : Int)) && !false) = true) ∧ ((decide ((10 : Int) ≤ a0_39) && decide (a0_39 ≤ (13 : Int)) && !false) = true → (decide ((10 : Int) ≤ a0_39) && decide (a0_39 ≤ (13 : Int)) && !false) = true) ∧ ((decide ((10 : Int) ≤ a0_39) && decide (a0_39 ≤ (13 : Int)) && !false) = true → (decide ((10 : Int) ≤ a0_39) && decide (a0_39 ≤ (13 : Int)) && !false) = true) ∧ ((decide ((10 : Int) ≤ a0_39) && decide (a0_39 ≤ (13 : Int)) && !false) = true → (decide ((10 : Int) ≤ a0_39) && decide (a0_39 ≤ (13 : Int)) && !false) = true) ∧ ((decide ((10 : Int) ≤ a0_39) && decide (a0_39 ≤ (13 : Int)) && !false) = true → decide (points ≤ a0_36) = false) ∧ ((decide ((10 : Int) ≤ a0_39) && decide (a0_39 ≤ (13 : Int))) = true → (decide ((10 : Int) ≤ a0_39) && decide (a0_39 ≤ (13 : Int))) = true → (decide ((10 : Int) ≤ a0_39) && decide (a0_39 ≤ (13 : Int))) = true) ∧ ((decide ((10 : Int) ≤ a0_39) && decide (a0_39 ≤ (13 : Int)) && !false) = true → (decide ((10 : Int) ≤ a0_39) && decide (a0_39 ≤ (13 : Int)) && !false) = true) ∧ ((decide ((10 : Int) ≤ a0_39) && decide (a0_39 ≤ (13 : Int))) = true → (decide ((10 : Int) ≤ a0_39) && decide (a0_39 ≤ (13 : Int))) = true) ∧ Eng.Pure Tryz.prog 57 [a0_11] (vbool (decide ((10 : Int) ≤ a0_45) && decide (a0_45 ≤ (13 : Int)))) ∧ ((decide ((10 : Int) ≤ a0_45) && decide (a0_45 ≤ (13 : Int))) = true → (decide ((10 : Int) ≤ a0_45) && decide (a0_45 ≤ (13 : Int))) = true) ∧ ((decide ((10 : Int) ≤ a0_45) && decide (a0_45 ≤ (13 : Int))) = true → (decide ((10 : Int) ≤ a0_45) && decide (a0_45 ≤ (13 : Int))) = true) ∧ ((decide ((10 : Int) ≤ a0_45) && decide (a0_45 ≤ (13 : Int))) = true → decide (a0_32 < (0 : Int)) = false) ∧ ((decide ((10 : Int) ≤ a0_45) && decide (a0_45 ≤ (13 : Int))) = true → (decide ((10 : Int) ≤ a0_45) && decide (a0_45 ≤ (13 : Int))) = true) ∧ ((decide ((10 : Int) ≤ a0_45) && decide (a0_45 ≤ (13 : Int)) && !false) = true → (decide ((10 : Int) ≤ a0_45) && decide (a0_45 ≤ (13 : Int)) && !false) = true) ∧ ((decide ((10 : Int) ≤ a0_45) && decide (a0_45 ≤ (13 : Int)) && !false) = true → (decide ((10 : Int) ≤ a0_45) && decide (a0_45 ≤ (13 : Int)) && !false) = true) ∧ ((decide ((10 : Int) ≤ a0_45) && decide (a0_45 ≤ (13 : Int)) && !false) = true → (decide ((10 : Int) ≤ a0_45) && decide (a0_45 ≤ (13 : Int)) && !false) = true) ∧ ((decide ((10 : Int) ≤ a0_45) && decide (a0_45 ≤ (13 : Int)) && !false) = true → (decide ((10 : Int) ≤ a0_45) && decide (a0_45 ≤ (13 : Int)) && !false) = true) ∧ ((decide ((10 : Int) ≤ a0_45) && decide (a0_45 ≤ (13 : Int)) && !false) = true → (decide ((10 : Int) ≤ a0_45) && decide (a0_45 ≤ (13 : Int)) && !false) = true) ∧ ((decide ((10 : Int) ≤ a0_45) && decide (a0_45 ≤ (13 : Int)) && !false) = true → (decide ((10 : Int) ≤ a0_45) && decide (a0_45 ≤ (13 : Int)) && !false) = true) ∧ ((decide ((10 : Int) ≤ a0_45) && decide (a0_45 ≤ (13 : Int)) && !false) = true → decide (points ≤ a0_32) = false) ∧ ((decide ((10 : Int) ≤ a0_45) && decide (a0_45 ≤ (13 : Int))) = true → (decide ((10 : Int) ≤ a0_45) && decide (a0_45 ≤ (13 : Int))) = true → (decide ((10 : Int) ≤ a0_45) && decide (a0_45 ≤ (13 : Int))) = true) ∧ ((decide ((10 : Int) ≤ a0_45) && decide (a0_45 ≤ (13 : Int)) && !false) = true → (decide ((10 : Int) ≤ a0_45) && decide (a0_45 ≤ (13 : Int)) && !false) = true) ∧ ((decide ((10 : Int) ≤ a0_45) && decide (a0_45 ≤ (13 : Int))) = true → (decide ((10 : Int) ≤ a0_45) && decide (a0_45 ≤ (13 : Int))) = true) ∧ Eng.Pure Tryz.prog 57 [a0_15] (vbool (decide ((10 : Int) ≤ a0_47) && decide (a0_47 ≤ (13 : Int)))) ∧ ((decide ((10 : Int) ≤ a0_47) && decide (a0_47 ≤ (13 : Int))) = true → (decide ((10 : Int) ≤ a0_47) && decide (a0_47 ≤ (13 : Int))) = true) ∧ ((decide ((10 : Int) ≤ a0_47) && decide (a0_47 ≤ (13 : Int))) = true → (decide ((10 : Int) ≤ a0_47) && decide (a0_47 ≤ (13 : Int))) = true) ∧ ((decide ((10 : Int) ≤ a0_47) && decide (a0_47 ≤ (13 : Int))) = true → decide (a0_37 < (0 : Int)) = false) ∧ ((decide ((10 : Int) ≤ a0_47) && decide (a0_47 ≤ (13 : Int))) = true → (decide ((10 : Int) ≤ a0_47) && decide (a0_47 ≤ (13 : Int))) = true) ∧ ((decide ((10 : Int) ≤ a0_47) && decide (a0_47 ≤ (13 : Int)) && !false) = true → (decide ((10 : Int) ≤ a0_47) && decide (a0_47 ≤ (13 : Int)) && !false) = true) ∧ ((decide ((10 : Int) ≤ a0_47) && decide (a0_47 ≤ (13 : Int)) && !false) = true → (decide ((10 : Int) ≤ a0_47) && decide (a0_47 ≤ (13 : Int)) && !false) = true) ∧ ((decide ((10 : Int) ≤ a0_47) && decide (a0_47 ≤ (13 : Int)) && !false) = true → (decide ((10 : Int) ≤ a0_47) && decide (a0_47 ≤ (13 : Int)) && !false) = true) ∧ ((decide ((10 : Int) ≤ a0_47) && decide (a0_47 ≤ (13 : Int)) && !false) = true → (decide ((10 : Int) ≤ a0_47) && decide (a0_47 ≤ (13 : Int)) && !false) = true) ∧ ((decide ((10 : Int) ≤ a0_47) && decide (a0_47 ≤ (13 : Int)) && !false) = true → (decide ((10 : Int) ≤ a0_47) && decide (a0_47 ≤ (13 : Int)) && !false) = true) ∧ ((decide ((10 : Int) ≤ a0_47) && decide (a0_47 ≤ (13 : Int)) && !false) = true → (decide ((10 : Int) ≤ a0_47) && decide (a0_47 ≤ (13 : Int)) && !false) = true) ∧ ((decide ((10 : Int) ≤ a0_47) && decide (a0_47 ≤ (13 : Int)) && !false) = true → decide (points ≤ a0_37) = false) ∧ ((decide ((10 : Int) ≤ a0_47) && decide (a0_47 ≤ (13 : Int))) = true → (decide ((10 : Int) ≤ a0_47) && decide (a0_47 ≤ (13 : Int))) = true → (decide ((10 : Int) ≤ a0_47) && decide (a0_47 ≤ (13 : Int))) = true) ∧ ((decide ((10 : Int) ≤ a0_47) && decide (a0_47 ≤ (13 : Int)) && !false) = true → (decide ((10 : Int) ≤ a0_47) && decide (a0_47 ≤ (13 : Int)) && !false) = true) ∧ ((decide ((10 : Int) ≤ a0_47) && decide (a0_47 ≤ (13 : Int))) = true → (decide ((10 : Int) ≤ a0_47) && decide (a0_47 ≤ (13 : Int))) = true) ∧ Eng.Pure Tryz.prog 57 [a0_10] (vbool (decide ((10 : Int) ≤ a0_51) && decide (a0_51 ≤ (13 : Int)))) ∧ ((decide ((10 : Int) ≤ a0_51) && decide (a0_51 ≤ (13 : Int))) = true → (decide ((10 : Int) ≤ a0_51) && decide (a0_51 ≤ (13 : Int))) = true) ∧ ((decide ((10 : Int) ≤ a0_51) && decide (a0_51 ≤ (13 : Int))) = true → (decide ((10 : Int) ≤ a0_51) && decide (a0_51 ≤ (13 : Int))) = true) ∧ ((decide ((10 : Int) ≤ a0_51) && decide (a0_51 ≤ (13 : Int))) = true → decide (a0_33 < (0 : Int)) = false) ∧ ((decide ((10 : Int) ≤ a0_51) && decide (a0_51 ≤ (13 : Int))) = true → (decide ((10 : Int) ≤ a0_51) && decide (a0_51 ≤ (13 : Int))) = true) ∧ ((decide ((10 : Int) ≤ a0_51) && decide (a0_51 ≤ (13 : Int)) && !false) = true → (decide ((10 : Int) ≤ a0_51) && decide (a0_51 ≤ (13 : Int)) && !false) = true) ∧ ((decide ((10 : Int) ≤ a0_51) && decide (a0_51 ≤ (13 : Int)) && !false) = true → (decide ((10 : Int) ≤ a0_51) && decide (a0_51 ≤ (13 : Int)) && !false) = true) ∧ ((decide ((10 : Int) ≤ a0_51) && decide (a0_51 ≤ (13 : Int)) && !false) = true → (decide ((10 : Int) ≤ a0_51) && decide (a0_51 ≤ (13 : Int)) && !false) = true) ∧ ((decide ((10 : Int) ≤ a0_51) && decide (a0_51 ≤ (13 : Int)) && !false) = true → (decide ((10 : Int) ≤ a0_51) && decide (a0_51 ≤ (13 : Int)) && !false) = true) ∧ ((decide ((10 : Int) ≤ a0_51) && decide (a0_51 ≤ (13 : Int)) && !false) = true → (decide ((10 : Int) ≤ a0_51) && decide (a0_51 ≤ (13 : Int)) && !false) = true) ∧ ((decide ((10 : Int) ≤ a0_51) && decide (a0_51 ≤ (13 : Int)) && !false) = true → (decide ((10 : Int) ≤ a0_51) && decide (a0_51 ≤ (13 : Int)) && !false) = true) ∧ ((decide ((10 : Int) ≤ a0_51) && decide (a0_51 ≤ (13 : Int)) && !false) = true → decide (points ≤ a0_33) = false) ∧ ((decide ((10 : Int) ≤ a0_51) && decide (a0_51 ≤ (13 : Int))) = true → (decide ((10 : Int) ≤ a0_51) && decide (a0_51 ≤ (13 : Int))) = true → (decide ((10 : Int) ≤ a0_51) && decide (a0_51 ≤ (13 : Int))) = true) ∧ ((decide ((10 : Int) ≤ a0_51) && decide (a0_51 ≤ (13 : Int)) && !false) = true → (decide ((10 : Int) ≤ a0_51) && decide (a0_51 ≤ (13 : Int)) && !false) = true) ∧ ((decide ((10 : Int) ≤ a0_51) && decide (a0_51 ≤ (13 : Int))) = true → (decide ((10 : Int) ≤ a0_51) && decide (a0_51 ≤ (13 : Int))) = true) ∧ Eng.Pure Tryz.prog 57 [a0_14] (vbool (decide ((10 : Int) ≤ a0_44) && decide (a0_44 ≤ (13 : Int)))) ∧ ((decide ((10 : Int) ≤ a0_44) && decide (a0_44 ≤ (13 : Int))) = true → (decide ((10 : Int) ≤ a0_44) && decide (a0_44 ≤ (13 : Int))) = true) ∧ ((decide ((10 : Int) ≤ a0_44) && decide (a0_44 ≤ (13 : Int))) = true → (decide ((10 : Int) ≤ a0_44) && decide (a0_44 ≤ (13 : Int))) = true) ∧ ((decide ((10 : Int) ≤ a0_44) && decide (a0_44 ≤ (13 : Int))) = true → decide (a0_34 < (0 : Int)) = false) ∧ ((decide ((10 : Int) ≤ a0_44) && decide (a0_44 ≤ (13 : Int))) = true → (decide ((10 : Int) ≤ a0_44) && decide (a0_44 ≤ (13 : Int))) = true) ∧ ((decide ((10 : Int) ≤ a0_44) && decide (a0_44 ≤ (13 : Int)) && !false) = true → (decide ((10 : Int) ≤ a0_44) && decide (a0_44 ≤ (13 : Int)) && !false) = true) ∧ ((decide ((10 : Int) ≤ a0_44) && decide (a0_44 ≤ (13 : Int)) && !false) = true → (decide ((10 : Int) ≤ a0_44) && decide (a0_44 ≤ (13 : Int)) && !false) = true) ∧ ((decide ((10 : Int) ≤ a0_44) && decide (a0_44 ≤ (13 : Int)) && !false) = true → (decide ((10 : Int) ≤ a0_44) && decide (a0_44 ≤ (13 : Int)) && !false) = true) ∧ ((decide ((10 : Int) ≤ a0_44) && decide (a0_44 ≤ (13 : Int)) && !false) = true → (decide ((10 : Int) ≤ a0_44) && decide (a0_44 ≤ (13 : Int)) && !false) = true) ∧ ((decide ((10 : Int) ≤ a0_44) && decide (a0_44 ≤ (13 : Int)) && !false) = true → (decide ((10 : Int) ≤ a0_44) && decide (a0_44 ≤ (13 : Int)) && !false) = true) ∧ ((decide ((10 : Int) ≤ a0_44) && decide (a0_44 ≤ (13 : Int)) && !false) = true → (decide ((10 : Int) ≤ a0_44) && decide (a0_44 ≤ (13 : Int)) && !false) = true) ∧ ((decide ((10 : Int) ≤ a0_44) && decide (a0_44 ≤ (13 : Int)) && !false) = true → decide (points ≤ a0_34) = false) ∧ ((decide ((10 : Int) ≤ a0_44) && decide (a0_44 ≤ (13 : Int))) = true → (decide ((10 : Int) ≤ a0_44) && decide (a0_44 ≤ (13 : Int))) = true → (decide ((10 : Int) ≤ a0_44) && decide (a0_44 ≤ (13 : Int))) = true) ∧ ((decide ((10 : Int) ≤ a0_44) && decide (a0_44 ≤ (13 : Int)) && !false) = true → (decide ((10 : Int) ≤ a0_44) && decide (a0_44 ≤ (13 : Int)) && !false) = true) ∧ ((decide ((10 : Int) ≤ a0_44) && decide (a0_44 ≤ (13 : Int))) = true → (decide ((10 : Int) ≤ a0_44) && decide (a0_44 ≤ (13 : Int))) = true) ∧ Eng.Pure Tryz.prog 57 [a0_9] (vbool (decide ((10 : Int) ≤ a0_40) && decide (a0_40 ≤ (13 : Int)))) ∧ ((decide ((10 : Int) ≤ a0_40) && decide (a0_40 ≤ (13 : Int))) = true → (decide ((10 : Int) ≤ a0_40) && decide (a0_40 ≤ (13 : Int))) = true) ∧ ((decide ((10 : Int) ≤ a0_40) && decide (a0_40 ≤ (13 : Int))) = true → (decide ((10 : Int) ≤ a0_40) && decide (a0_40 ≤ (13 : Int))) = true) ∧ ((decide ((10 : Int) ≤ a0_40) && decide (a0_40 ≤ (13 : Int))) = true → decide (a0_35 < (0 : Int)) = false) ∧ ((decide ((10 : Int) ≤ a0_40) && decide (a0_40 ≤ (13 : Int))) = true → (decide ((10 : Int) ≤ a0_40) && decide (a0_40 ≤ (13 : Int))) = true) ∧ ((decide ((10 : Int) ≤ a0_40) && decide (a0_40 ≤ (13 : Int)) && !false) = true → (decide ((10 : Int) ≤ a0_40) && decide (a0_40 ≤ (13 : Int)) && !false) = true) ∧ ((decide ((10 : Int) ≤ a0_40) && decide (a0_40 ≤ (13 : Int)) && !false) = true → (decide ((10 : Int) ≤ a0_40) && decide (a0_40 ≤ (13 : Int)) && !false) = true) ∧ ((decide ((10 : Int) ≤ a0_40) && decide (a0_40 ≤ (13 : Int)) && !false) = true → (decide ((10 : Int) ≤ a0_40) && decide (a0_40 ≤ (13 : Int)) && !false) = true) ∧ ((decide ((10 : Int) ≤ a0_40) && decide (a0_40 ≤ (13 : Int)) && !false) = true → (decide ((10 : Int) ≤ a0_40) && decide (a0_40 ≤ (13 : Int)) && !false) = true) ∧ ((decide ((10 : Int) ≤ a0_40) && decide (a0_40 ≤ (13 : Int)) && !false) = true → (decide ((10 : Int) ≤ a0_40) && decide (a0_40 ≤ (13 : Int)) && !false) = true) ∧ ((decide ((10 : Int) ≤ a0_40) && decide (a0_40 ≤ (13 : Int)) && !false) = true → (decide ((10 : Int) ≤ a0_40) && decide (a0_40 ≤ (13 : Int)) && !false) = true) ∧ ((decide ((10 : Int) ≤ a0_40) && decide (a0_40 ≤ (13 : Int)) && !false) = true → decide (points ≤ a0_35) = false) ∧ ((decide ((10 : Int) ≤ a0_40) && decide (a0_40 ≤ (13 : Int))) = true → (decide ((10 : Int) ≤ a0_40) && decide (a0_40 ≤ (13 : Int))) = true → (decide ((10 : Int) ≤ a0_40) && decide (a0_40 ≤ (13 : Int))) = true) ∧ ((decide ((10 : Int) ≤ a0_40) && decide (a0_40 ≤ (13 : Int)) && !false) = true → (decide ((10 : Int) ≤ a0_40) && decide (a0_40 ≤ (13 : Int)) && !false) = true) ∧ ((decide ((10 : Int) ≤ a0_40) && decide (a0_40 ≤ (13 : Int))) = true → (decide ((10 : Int) ≤ a0_40) && decide (a0_40 ≤ (13 : Int))) = true) ∧ (∀ (j : Nat), j < 1 → nthD a0_28 j = D.p (nthD a0_28 j).unP) ∧ Eng.Pure Tryz.prog 35 a0_22 a0_23 ∧ K (D.tup [a0_8, D.p (PV.v (Value.int IntKind.i64 (0 : Int)))]) [O.box a0_8, O.box (mkAgg [D.p (PV.v (Value.int IntKind.i64 points)), D.p (PV.v (Value.int IntKind.i64 (Int.ofNat 0))), D.p (PV.v (Value.int IntKind.i64 (Int.ofNat 2))), a0_23]), a0_7, a0_7, a0_17, a0_17, a0_6, a0_6, a0_16, a0_16, a0_2, a0_2, a0_20, a0_20, a0_3, a0_3, a0_21, a0_21, a0_1, a0_1, a0_19, a0_19, a0_4, a0_4, a0_0, a0_0, a0_5, a0_5, a0_18, a0_18, O.arr 3 1 1 (nthD a0_28), O.dead]) (by kernel_rfl) ?_
 have e0 : decide (n < 0) = false := by simp; omega
 have e1 : decide (points ≤ n) = false := by simp; omega
 have hK : ∀ H, K (.tup [.p (eFacts 7 2 [n]), vint .i64 0]) H := fun H => ⟨rfl, rfl, trivial⟩
 repeat' first | exact point_ok _ _ _ | exact hK _ | exact compact_ok _ | exact fun h => h | exact fun _ => e0 | exact fun _ => e1 | exact fun _ h => h | exact fun h => Bool.noConfusion (show false = true from h) | exact fun j hj => (match j, hj with | 0, _ => rfl) | refine And.intro ?_ ?_
set_option maxRecDepth 100000 in
theorem verify3_ok (n points : Int) (h0 : 0 ≤ n) (h1 : n < points) : Pure Tryz.prog 10 [eTs (hp3 n), eI points] (.tup [.p (eFacts 9 2 [n]), vint .i64 0]) := by
 let K : KV := endP (.tup [.p (eFacts 9 2 [n]), vint .i64 0])
 refine pure_by 20 hVer (p :=
  let a0_47 : PV := PV.v (Value.int IntKind.i64 (1 : Int)); let a0_46 : PV := PV.v (Value.int IntKind.i64 (0 : Int)); let a0_45 : PV := PV.v (Value.int IntKind.i64 (Int.ofNat 2)); let a0_44 : Tn := (hp3 n).getD 4 tn0; let a0_43 : Tn := (hp3 n).getD 3 tn0; let a0_42 : Tn := (hp3 n).getD 2 tn0; let a0_41 : Tn := (hp3 n).getD 0 tn0; let a0_40 : Tn := (hp3 n).getD 1 tn0; let a0_39 : List PV := [a0_46]; let a0_38 : List PV := [a0_47]; let a0_37 : Int × Int := a0_42.snd; let a0_36 : Int := a0_40.fst; let a0_35 : Int := a0_41.fst; let a0_34 : Int × Int := a0_44.snd; let a0_33 : Int := a0_44.fst; let a0_32 : Int := a0_42.fst; let a0_31 : Int × Int := a0_41.snd; let a0_30 : Int × Int := a0_43.snd; let a0_29 : Int × Int := a0_40.snd; let a0_28 : Int := a0_43.fst; let a0_27 : Int := a0_34.fst; let a0_26 : Int := a0_30.fst; let a0_25 : Int := a0_37.fst; let a0_24 : Int := a0_29.fst; let a0_23 : Int := a0_31.fst; let a0_22 : PV := PV.v (Value.int IntKind.i64 a0_27); let a0_21 : List UInt8 := [(101 : UInt8), (116 : UInt8), (121 : UInt8)]; let a0_20 : List D := [D.p a0_22]; let a0_19 : List PV := PV.v (Value.bool true) :: PV.v (Value.bool false) :: a0_46 :: a0_38; let a0_18 : PV := PV.lst 1 1 fun (j : Nat) => (nthD a0_20 j).unP; let a0_17 : D := D.p a0_18; let a0_16 : List PV := [a0_18]; let a0_15 : O := O.box (D.p (PV.agg (PV.s [(97 : UInt8), (100 : UInt8), (100 : UInt8)] :: PV.v (Value.bool false) :: PV.v (Value.bool false) :: PV.v (Value.int IntKind.i64 (2 : Int)) :: a0_38))); let a0_14 : O := O.box (D.p (PV.agg (PV.s ((103 : UInt8) :: a0_21) :: a0_19))); let a0_13 : O := O.box (D.p (PV.agg (PV.s [(108 : UInt8), (111 : UInt8), (111 : UInt8), (112 : UInt8)] :: PV.v (Value.bool true) :: PV.v (Value.bool true) :: a0_46 :: a0_39))); let a0_12 : O := O.box (D.p (PV.agg (PV.s ((115 : UInt8) :: a0_21) :: PV.v (Value.bool true) :: PV.v (Value.bool false) :: a0_47 :: a0_39))); let a0_11 : O := O.box (D.p (PV.agg (PV.s [(112 : UInt8), (117 : UInt8), (115 : UInt8), (104 : UInt8)] :: a0_19))); let a0_10 : PV := PV.agg [PV.v (Value.int IntKind.i64 a0_36), PV.v (Value.int IntKind.i64 a0_24), PV.v (Value.int IntKind.i64 a0_29.snd)]; let a0_9 : PV := PV.agg [PV.v (Value.int IntKind.i64 a0_28), PV.v (Value.int IntKind.i64 a0_26), PV.v (Value.int IntKind.i64 a0_30.snd)]; let a0_8 : D := D.p (PV.agg (PV.v (Value.int IntKind.i64 (Int.ofNat 9)) :: a0_45 :: a0_16)); let a0_7 : PV := PV.agg [PV.v (Value.int IntKind.i64 a0_32), PV.v (Value.int IntKind.i64 a0_25), PV.v (Value.int IntKind.i64 a0_37.snd)]; let a0_6 : PV := PV.agg [PV.v (Value.int IntKind.i64 a0_35), PV.v (Value.int IntKind.i64 a0_23), PV.v (Value.int IntKind.i64 a0_31.snd)]; let a0_5 : PV := PV.agg [PV.v (Value.int IntKind.i64 a0_33), a0_22, PV.v (Value.int IntKind.i64 a0_34.snd)]; let a0_4 : O := O.box (D.p a0_7); let a0_3 : O := O.box (D.p a0_5); let a0_2 : O := O.box (D.p a0_10); let a0_1 : O := O.box (D.p a0_6); let a0_0 : O := O.box (D.p a0_9); Eng.Pure Tryz.prog 57 [a0_6] (vbool (decide ((10 : Int) ≤ a0_35) && decide (a0_35 ≤ (13 : Int)))) ∧ ((decide ((10 : Int) ≤ a0_35) && decide (a0_35 ≤ (13 : Int))) = true → (decide ((10 : Int) ≤ a0_35) && decide (a0_35 ≤ (13 : Int))) = true) ∧ ((decide ((10 : Int) ≤ a0_35) && decide (a0_35 ≤ (13 : Int))) = true → (decide ((10 : Int) ≤ a0_35) && decide (a0_35 ≤ (13 : Int))) = true) ∧ ((decide ((10 : Int) ≤ a0_35) && decide (a0_35 ≤ (13 : Int))) = true → decide (a0_23 < (0 : Int)) = false) ∧ ((decide ((10 : Int) ≤ a0_35) && decide (a0_35 ≤ (13 : Int))) = true → (decide ((10 : Int) ≤ a0_35) && decide (a0_35 ≤ (13 : Int))) = true) ∧ ((decide ((10 : Int) ≤ a0_35) && decide (a0_35 ≤ (13 : Int)) && !false) = true → (decide ((10 : Int) ≤ a0_35) && decide (a0_35 ≤ (13 : Int)) && !false) = true) ∧ ((decide ((10 : Int) ≤ a0_35) && decide (a0_35 ≤ (13 : Int)) && !false) = true → (decide ((10 : Int) ≤ a0_35) && decide (a0_35 ≤ (13 : Int)) && !false) = true) ∧ ((decide ((10 : Int) ≤ a0_35) && decide (a0_35 ≤ (13 : Int)) && !false) = true → (decide ((10 : Int) ≤ a0_35) && decide (a0_35 ≤ (13 : Int)) && !false) = true) ∧ ((decide ((10 : Int) ≤ a0_35) && decide (a0_35 ≤ (13 : Int)) && !false) = true → (decide ((10 : Int) ≤ a0_35) && decide (a0_35 ≤ (13 : Int)) && !false) = true) ∧ ((decide ((10 : Int) ≤ a0_35) && decide (a0_35 ≤ (13 : Int)) && !false) = true → (decide ((10 : Int) ≤ a0_35) && decide (a0_35 ≤ (13 : Int)) && !false) = true) ∧ ((decide ((10 : Int) ≤ a0_35) && decide (a0_35 ≤ (13 : Int)) && !false) = true → (decide ((10 : Int) ≤ a0_35) && decide (a0_35 ≤ (13 : Int)) && !false) = true) ∧ ((decide ((10 : Int) ≤ a0_35) && decide (a0_35 ≤ (13 : Int)) && !false) = true → decide (points ≤ a0_23) = false) ∧ ((decide ((10 : Int) ≤ a0_35) && decide (a0_35 ≤ (13 : Int))) = true → (decide ((10 : Int) ≤ a0_35) && decide (a0_35 ≤ (13 : Int))) = true → (decide ((10 : Int) ≤ a0_35) && decide (a0_35 ≤ (13 : Int))) = true) ∧ ((decide ((10 : Int) ≤ a0_35) && decide (a0_35 ≤ (13 : Int)) && !false) = true → (decide ((10 : Int) ≤ a0_35) && decide (a0_35 ≤ (13 : Int)) && !false) = true) ∧ ((decide ((10 : Int) ≤ a0_35) && decide (a0_35 ≤ (13 : Int))) = true → (decide ((10 : Int) ≤ a0_35) && decide (a0_35 ≤ (13 : Int))) = true) ∧ Eng.Pure Tryz.prog 57 [a0_10] (vbool (decide ((10 : Int) ≤ a0_36) && decide (a0_36 ≤ (13 : Int)))) ∧ ((decide ((10 : Int) ≤ a0_36) && decide (a0_36 ≤ (13 : Int))) = true → (decide ((10 : Int) ≤ a0_36) && decide (a0_36 ≤ (13 : Int))) = true) ∧ ((decide ((10 : Int) ≤ a0_36) && decide (a0_36 ≤ (13 : Int))) = true → (decide ((10 : Int) ≤ a0_36) && decide (a0_36 ≤ (13 : Int))) = true) ∧ ((decide ((10 : Int) ≤ a0_36) && decide (a0_36 ≤ (13 : Int))) = true → decide (a0_24 < (0 : Int)) = false) ∧ ((decide ((10 : Int) ≤ a0_36) && decide (a0_36 ≤ (13 : Int))) = true → (decide ((10 : Int) ≤ a0_36) && decide (a0_36 ≤ (13 : Int))) = true) ∧ ((decide ((10 : Int) ≤ a0_36) && decide (a0_36 ≤ (13 : Int)) && !false) = true → (decide ((10 : Int) ≤ a0_36) && decide (a0_36 ≤ (13 : Int)) && !false) = true) ∧ ((decide ((10 : Int) ≤ a0_36) && decide (a0_36 ≤ (13 : Int)) && !false) = true → (decide ((10 : Int) ≤ a0_36) && decide (a0_36 ≤ (13 : Int)) && !false) = true) ∧ ((decide ((10 : Int) ≤ a0_36) && decide (a0_36 ≤ (13 : Int)) && !false) = true → (decide ((10 : Int) ≤ a0_36) && decide (a0_36 ≤ (13 : Int)) && !false) = true) ∧ ((decide ((10 : Int) ≤ a0_36) && decide (a0_36 ≤ (13 : Int)) && !false) = true → (decide ((10 : Int) ≤ a0_36) && decide (a0_36 ≤ (13 : Int)) && !false) = true) ∧ ((decide ((10 : Int) ≤ a0_36) && decide (a0_36 ≤ (13 : Int)) && !false) = true → (decide ((10 : Int) ≤ a0_36) && decide (a0_36 ≤ (13 : Int)) && !false) = true) ∧ ((decide ((10 : Int) ≤ a0_36) && decide (a0_36 ≤ (13 : Int)) && !false) = true → (decide ((10 : Int) ≤ a0_36) && decide (a0_36 ≤ (13 : Int)) && !false) = true) ∧ ((decide ((10 : Int) ≤ a0_36) && decide (a0_36 ≤ (13 : Int)) && !false) = true → decide (points ≤ a0_24) = false) ∧ ((decide ((10 : Int) ≤ a0_36) && decide (a0_36 ≤ (13 : Int))) = true → (decide ((10 : Int) ≤ a0_36) && decide (a0_36 ≤ (13 : Int))) = true → (decide ((10 : Int) ≤ a0_36) && decide (a0_36 ≤ (13 : Int))) = true) ∧ ((decide ((10 : Int) ≤ a0_36) && decide (a0_36 ≤ (13 : Int)) && !false) = true → (decide ((10 : Int) ≤ a0_36) && decide (a0_36 ≤ (13 : Int)) && !false) = true) ∧ ((decide ((10 : Int) ≤ a0_36) && decide (a0_36 ≤ (13 : Int))) = true → (decide ((10 : Int) ≤ a0_36) && decide (a0_36 ≤ (13 : Int))) = true) ∧ Eng.Pure Tryz.prog 57 [a0_7] (vbool (decide ((10 : Int) ≤ a0_32) && decide (a0_32 ≤ (13 : Int)))) ∧ ((decide ((10 : Int) ≤ a0_32) && decide (a0_32 ≤ (13 : Int))) = true → (decide ((10 : Int) ≤ a0_32) && decide (a0_32 ≤ (13 : Int))) = true) ∧ ((decide ((10 : Int) ≤ a0_32) && decide (a0_32 ≤ (13 : Int))) = true → (decide ((10 : Int) ≤ a0_32) && decide (a0_32 ≤ (13 : Int))) = true) ∧ ((decide ((10 : Int) ≤ a0_32) && decide (a0_32 ≤ (13 : Int))) = true → decide (a0_25 < (0 : Int)) = false) ∧ ((decide ((10 : Int) ≤ a0_32) && decide (a0_32 ≤ (13 : Int))) = true → (decide ((10 : Int) ≤ a0_32) && decide (a0_32 ≤ (13 : Int))) = true) ∧ ((decide ((10 : Int) ≤ a0_32) && decide (a0_32 ≤ (13 : Int)) && !false) = true → (decide ((10 : Int) ≤ a0_32) && decide (a0_32 ≤ (13 : Int)) && !false) = true) ∧ ((decide ((10 : Int) ≤ a0_32) && decide (a0_32 ≤ (13 : Int)) && !false) = true → (decide ((10 : Int) ≤ a0_32) && decide (a0_32 ≤ (13 : Int)) && !false) = true) ∧ ((decide ((10 : Int) ≤ a0_32) && decide (a0_32 ≤ (13 : Int)) && !false) = true → (decide ((10 : Int) ≤ a0_32) && decide (a0_32 ≤ (13 : Int)) && !false) = true) ∧ ((decide ((10 : Int) ≤ a0_32) && decide (a0_32 ≤ (13 : Int)) && !false) = true → (decide ((10 : Int) ≤ a0_32) && decide (a0_32 ≤ (13 : Int)) && !false) = true) ∧ ((decide ((10 : Int) ≤ a0_32) && decide (a0_32 ≤ (13 : Int)) && !false) = true → (decide ((10 : Int) ≤ a0_32) && decide (a0_32 ≤ (13 : Int)) && !false) = true) ∧ ((decide ((10 : Int) ≤ a0_32) && decide (a0_32 ≤ (13 : Int)) && !false) = true → (decide ((10 : Int) ≤ a0_32) && decide (a0_32 ≤ (13 : Int)) && !false) = true) ∧ ((decide ((10 : Int) ≤ a0_32) && decide (a0_32 ≤ (13 : Int)) && !false) = true → decide (points ≤ a0_25) = false) ∧ ((decide ((10 : Int) ≤ a0_32) && decide (a0_32 ≤ (13 : Int))) = true → (decide ((10 : Int) ≤ a0_32) && decide (a0_32 ≤ (13 : Int))) = true → (decide ((10 : Int) ≤ a0_32) && decide (a0_32 ≤ (13 : Int))) = true) ∧ ((decide ((10 : Int) ≤ a0_32) && decide (a0_32 ≤ (13 : Int)) && !false) = true → (decide ((10 : Int) ≤ a0_32) && decide (a0_32 ≤ (13 : Int)) && !false) = true) ∧ ((decide ((10 : Int) ≤ a0_32) && decide (a0_32 ≤ (13 : Int))) = true → (decide ((10 : Int) ≤ a0_32) && decide (a0_32 ≤ (13 : Int))) = true) ∧ Eng.Pure Tryz.prog 57 [a0_9] (vbool (decide ((10 : Int) ≤ a0_28) && decide (a0_28 ≤ (13 : Int)))) ∧ ((decide ((10 : Int) ≤ a0_28) && decide (a0_28 ≤ (13 : Int))) = true → (decide ((10 : Int) ≤ a0_28) && decide (a0_28 ≤ (13 : Int))) = true) ∧ ((decide ((10 : Int) ≤ a0_28) && decide (a0_28 ≤ (13 : Int))) = true → (decide ((10 : Int) ≤ a0_28) && decide (a0_28 ≤ (13 : Int))) = true) ∧ ((decide ((10 : Int) ≤ a0_28) && decide (a0_28 ≤ (13 : Int))) = true → decide (a0_26 < (0 : Int)) = false) ∧ ((decide ((10 : Int) ≤ a0_28) && decide (a0_28 ≤ (13 : Int))) = true → (decide ((10 : Int) ≤ a0_28) && decide (a0_28 ≤ (13 : Int))) = true) ∧ ((decide ((10 : Int) ≤ a0_28) && decide (a0_28 ≤ (13 : Int)) && !false) = true → (decide ((10 : Int) ≤ a0_28) && decide (a0_28 ≤ (13 : Int)) && !false) = true) ∧ ((decide ((10 : Int) ≤ a0_28) && decide (a0_28 ≤ (13 : Int)) && !false) = true → (decide ((10 : Int) ≤ a0_28) && decide (a0_28 ≤ (13 : Int)) && !false) = true) ∧ ((decide ((10 : Int) ≤ a0_28) && decide (a0_28 ≤ (13 : Int)) && !false) = true → (decide ((10 : Int) ≤ a0_28) && decide (a0_28 ≤ (13 : Int)) && !false) = true) ∧ ((decide ((10 : Int) ≤ a0_28) && decide (a0_28 ≤ (13 : Int)) && !false) = true → (decide ((10 : Int) ≤ a0_28) && decide (a0_28 ≤ (13 : Int)) && !false) = true) ∧ ((decide ((10 : Int) ≤ a0_28) && decide (a0_28 ≤ (13 : Int)) && !false) = true → (decide ((10 : Int) ≤ a0_28) && decide (a0_28 ≤ (13 : Int)) && !false) = true) ∧ ((decide ((10 : Int) ≤ a0_28) && decide (a0_28 ≤ (13 : Int)) && !false) = true → (decide ((10 : Int) ≤ a0_28) && decide (a0_28 ≤ (13 : Int)) && !false) = true) ∧ ((decide ((10 : Int) ≤ a0_28) && decide (a0_28 ≤ (13 : Int)) && !false) = true → decide (points ≤ a0_26) = false) ∧ ((decide ((10 : Int) ≤ a0_28) && decide (a0_28 ≤ (13 : Int))) = true → (decide ((10 : Int) ≤ a0_28) && decide (a0_28 ≤ (13 : Int))) = true → (decide ((10 : Int) ≤ a0_28) && decide (a0_28 ≤ (13 : Int))) = true) ∧ ((decide ((10 : Int) ≤ a0_28) && decide (a0_28 ≤ (13 : Int)) && !false) = true → (decide ((10 : Int) ≤ a0_28) && decide (a0_28 ≤ (13 : Int)) && !false) = true) ∧ ((decide ((10 : Int) ≤ a0_28) && decide (a0_28 ≤ (13 : Int))) = true → (decide ((10 : Int) ≤ a0_28) && decide (a0_28 ≤ (13 : Int))) = true) ∧ Eng.Pure Tryz.prog 57 [a0_5] (vbool (decide ((10 : Int) ≤ a0_33) && decide (a0_33 ≤ (13 : Int)))) ∧ ((decide ((10 : Int) ≤ a0_33) && decide (a0_33 ≤ (13 : Int))) = true → (decide ((10 : Int) ≤ a0_33) && decide (a0_33 ≤ (13 : Int))) = true) ∧ ((decide ((10 : Int) ≤ a0_33) && decide (a0_33 ≤ (13 : Int))) = true → (decide ((10 : Int) ≤ a0_33) && decide (a0_33 ≤ (13 : Int))) = true) ∧ ((decide ((10 : Int) ≤ a0_33) && decide (a0_33 ≤ (13 : Int))) = true → decide (a0_27 < (0 : Int)) = false) ∧ ((decide ((10 : Int) ≤ a0_33) && decide (a0_33 ≤ (13 : Int))) = true → (decide ((10 : Int) ≤ a0_33) && decide (a0_33 ≤ (13 : Int))) = true) ∧ ((decide ((10 : Int) ≤ a0_33) && decide (a0_33 ≤ (13 : Int)) && !false) = true → (decide ((10 : Int) ≤ a0_33) && decide (a0_33 ≤ (13 : Int)) && !false) = true) ∧ ((decide ((10 : Int) ≤ a0_33) && decide (a0_33 ≤ (13 : Int)) && !false) = true → (decide ((10 : Int) ≤ a0_33) && decide (a0_33 ≤ (13 : Int)) && !false) = true) ∧ ((decide ((10 : Int) ≤ a0_33) && decide (a0_33 ≤ (13 : Int)) && !false) = true → (decide ((10 : Int) ≤ a0_33) && decide (a0_33 ≤ (13 : Int)) && !false) = true) ∧ ((decide ((10 : Int) ≤ a0_33) && decide (a0_33 ≤ (13 : Int)) && !false) = true → (decide ((10 : Int) ≤ a0_33) && decide (a0_33 ≤ (13 : Int)) && !false) = true) ∧ ((decide ((10 : Int) ≤ a0_33) && decide (a0_33 ≤ (13 : Int)) && !false) = true → (decide ((10 : Int) ≤ a0_33) && decide (a0_33 ≤ (13 : Int)) && !false) = true) ∧ ((decide ((10 : Int) ≤ a0_33) && decide (a0_33 ≤ (13 : Int)) && !false) = true → (decide ((10 : Int) ≤ a0_33) && decide (a0_33 ≤ (13 : Int)) && !false) = true) ∧ ((decide ((10 : Int) ≤ a0_33) && decide (a0_33 ≤ (13 : Int)) && !false) = true → decide (points ≤ a0_27) = false) ∧ ((decide ((10 : Int) ≤ a0_33) && decide (a0_33 ≤ (13 : Int))) = true → (decide ((10 : Int) ≤ a0_33) && decide (a0_33 ≤ (13 : Int))) = true → (decide ((10 : Int) ≤ a0_33) && decide (a0_33 ≤ (13 : Int))) = true) ∧ ((decide ((10 : Int) ≤ a0_33) && decide (a0_33 ≤ (13 : Int)) && !false) = true → (decide ((10 : Int) ≤ a0_33) && decide (a0_33 ≤ (13 : Int)) && !false) = true) ∧ ((decide ((10 : Int) ≤ a0_33) && decide (a0_33 ≤ (13 : Int))) = true → (decide ((10 : Int) ≤ a0_33) && decide (a0_33 ≤ (13 : Int))) = true) ∧ (∀ (j : Nat), j < 1 → nthD a0_20 j = D.p (nthD a0_20 j).unP) ∧ Eng.Pure Tryz.prog 35 a0_16 a0_17 ∧ K (D.tup [a0_8, D.p a0_46]) [O.box a0_8, O.box (mkAgg [D.p (PV.v (Value.int IntKind.i64 points)), D.p (PV.v (Value.int IntKind.i64 (Int.ofNat 0))), D.p a0_45, a0_17]), a0_1, a0_1, a0_13, a0_13, a0_2, a0_2, a0_14, a0_14, a0_4, a0_4, a0_11, a0_11, a0_0, a0_0, a0_15, a0_15, a0_3, a0_3, a0_12, a0_12, O.arr 3 1 1 (nthD a0_20), O.dead]) (by kernel_rfl) ?_
 have e0 : decide (n < 0) = false := by simp; omega
 have e1 : decide (points ≤ n) = false := by simp; omega
 have hK : ∀ H, K (.tup [.p (eFacts 9 2 [n]), vint .i64 0]) H := fun H => ⟨rfl, rfl, trivial⟩
 repeat' first | exact point_ok _ _ _ | exact hK _ | exact compact_ok _ | exact fun h => h | exact fun _ => e0 | exact fun _ => e1 | exact fun _ h => h | exact fun h => Bool.noConfusion (show false = true from h) | exact fun j hj => (match j, hj with | 0, _ => rfl) | refine And.intro ?_ ?_
set_option maxRecDepth 100000 in
theorem verify0_ok (points : Int) : Pure Tryz.prog 10 [eTs [], eI points] (.tup [.p (.agg [eI 0, eI 0, .v (.slice none 0 0)]), vint .i64 0]) := by
 let K : KV := endP (.tup [.p (.agg [eI 0, eI 0, .v (.slice none 0 0)]), vint .i64 0])
 refine pure_by 20 hVer (p :=
  let a0_4 : PV := PV.v (Value.int IntKind.i64 (0 : Int)); let a0_3 : PV := PV.v (Value.slice none 0 0); let a0_2 : List PV := [a0_3]; let a0_1 : List PV := a0_4 :: a0_2; let a0_0 : D := D.p (PV.agg (PV.v (Value.int IntKind.i64 (Int.ofNat 0)) :: a0_1)); Eng.Pure Tryz.prog 35 a0_2 (D.p a0_3) ∧ K (D.tup [a0_0, D.p a0_4]) [O.box a0_0, O.box (D.p (PV.agg (PV.v (Value.int IntKind.i64 points) :: a0_4 :: a0_1)))]) (by kernel_rfl) ?_
 have hK : ∀ H, K (.tup [.p (.agg [eI 0, eI 0, .v (.slice none 0 0)]), vint .i64 0]) H := fun H => ⟨rfl, rfl, trivial⟩
 repeat' first | exact hK _ | exact compact_nil | refine And.intro ?_ ?_
end Go.Proofs.YtekhlnihpfkkkaaGreatDoor
namespace Go.Proofs.YtekhlnihpfkkkaaGreatDoor
open Go.Shelf Go.RowKit Go.Lib
def rhoF : Go.Shelf.Ren := ⟨fun n => match n with | 15 => 172 | 20 => 186 | 17 => 187 | n => n, fun n => match n with | 23 => 244 | n => n, fun n => n⟩
theorem layI : LaysGw.n15 Tryz.prog rhoF where
 mixed := by kernel_rfl
 f15 := by kernel_rfl
 f20 := by kernel_rfl
 t0 := by kernel_rfl
 a0 := Tryz.isAgg0
 z0 := Tryz.sizeOf0
 v0 := Tryz.zeroValue0
 i0 := by kernel_rfl
 t3 := by kernel_rfl
 a3 := Tryz.isAgg3
 z3 := Tryz.sizeOf3
 v3 := Tryz.zeroValue3
 i3 := by kernel_rfl
 t4 := by kernel_rfl
 a4 := Tryz.isAgg4
 z4 := Tryz.sizeOf4
 v4 := Tryz.zeroValue4
 i4 := by kernel_rfl
 t9 := by kernel_rfl
 a9 := Tryz.isAgg9
 z9 := Tryz.sizeOf9
 v9 := Tryz.zeroValue9
 i9 := by kernel_rfl
 t21 := by kernel_rfl
 a21 := Tryz.isAgg21
 z21 := Tryz.sizeOf21
 v21 := Tryz.zeroValue21
 i21 := by kernel_rfl
 t23 := by kernel_rfl
 a23 := Tryz.isAgg244
 z23 := Tryz.sizeOf244
 v23 := Tryz.zeroValue244
 i23 := by kernel_rfl
theorem layC : LaysGw.n17 Tryz.prog rhoF where
 mixed := by kernel_rfl
 f15 := by kernel_rfl
 f17 := by kernel_rfl
 f20 := by kernel_rfl
 t0 := by kernel_rfl
 a0 := Tryz.isAgg0
 z0 := Tryz.sizeOf0
 v0 := Tryz.zeroValue0
 i0 := by kernel_rfl
 t3 := by kernel_rfl
 a3 := Tryz.isAgg3
 z3 := Tryz.sizeOf3
 v3 := Tryz.zeroValue3
 i3 := by kernel_rfl
 t4 := by kernel_rfl
 a4 := Tryz.isAgg4
 z4 := Tryz.sizeOf4
 v4 := Tryz.zeroValue4
 i4 := by kernel_rfl
 t9 := by kernel_rfl
 a9 := Tryz.isAgg9
 z9 := Tryz.sizeOf9
 v9 := Tryz.zeroValue9
 i9 := by kernel_rfl
 t21 := by kernel_rfl
 a21 := Tryz.isAgg21
 z21 := Tryz.sizeOf21
 v21 := Tryz.zeroValue21
 i21 := by kernel_rfl
 t23 := by kernel_rfl
 a23 := Tryz.isAgg244
 z23 := Tryz.sizeOf244
 v23 := Tryz.zeroValue244
 i23 := by kernel_rfl
theorem tagP (w : World) : PredAt Tryz.prog 188 #[] encR (fun r => decide (r < 97) || decide (122 < r)) w := fun W r _ => by
 unfold FnGives
 by_cases h1 : r < 97 <;> by_cases h2 : 122 < r
 all_goals
  have z1 : (r : Int) < 97 ↔ r < 97 := by omega
  have z2 : (122 : Int) < r ↔ 122 < r := by omega
  go_enter Tryz.func188, Tryz.ntmps188
  go_wp2
  all_goals first | (exfalso; omega) | (go_ret; exact ⟨by simp [h1, h2], 0, rfl⟩)
theorem letP (w : World) (B : Nat) (d : Bool) (hB : B < w.heap.size) (hc : w.cell? ⟨B, 0, none⟩ = some (.bool d)) :
  PredAt Tryz.prog 173 #[.pointer (some ⟨B, 0, none⟩)] encR (fun r => !(decide (97 ≤ r) && decide (r ≤ 122) || d && (decide (48 ≤ r) && decide (r ≤ 57)))) w := fun W r hb => by
 have hc' : W.cell? ⟨B, 0, none⟩ = some (.bool d) := (hb.cell (p := ⟨B, 0, none⟩) hB).trans hc
 unfold FnGives
 cases d <;> by_cases h1 : 97 ≤ r <;> by_cases h2 : r ≤ 122 <;> by_cases h3 : 48 ≤ r <;> by_cases h4 : r ≤ 57
 all_goals
  have z1 : (97 : Int) ≤ r ↔ 97 ≤ r := by omega
  have z2 : (r : Int) ≤ 122 ↔ r ≤ 122 := by omega
  have z3 : (48 : Int) ≤ r ↔ 48 ≤ r := by omega
  have z4 : (r : Int) ≤ 57 ↔ r ≤ 57 := by omega
  go_enter Tryz.func173, Tryz.ntmps173
  go_wp2
  all_goals first | (exfalso; omega) | (go_ret; exact ⟨by simp [h1, h2, h3, h4], 0, rfl⟩)
def letQ (d : Bool) : Nat → Bool := fun r => !(decide (97 ≤ r) && decide (r ≤ 122) || d && (decide (48 ≤ r) && decide (r ≤ 57)))
def tagQ : Nat → Bool := fun r => decide (r < 97) || decide (122 < r)
theorem let_calls (s : ByteArray) (d : Bool) (w : World) (h1 : 1 ≤ s.size) (h2 : s.size ≤ 12) (h3 : Lib.idxFunc (letQ d) true s < 0) :
  Calls Tryz.prog 162 #[.string s, .bool d] w fun e w' => e = .returned (.bool true) ∧ Below w.heap.size w w' := by
 have hC := fun (W : World) (hB : w.heap.size < W.heap.size) (hc : W.cell? ⟨w.heap.size, 0, none⟩ = some (.bool d)) =>
  Any.strings_IndexFunc layI 173 #[.pointer (some ⟨w.heap.size, 0, none⟩)] (enters_of Tryz.func173 (by kernel_rfl) rfl) (letQ d) s W (letP W w.heap.size d hB hc)
 change ∀ W _ _, Calls Tryz.prog 172 _ _ _ at hC
 have z1 : (1 : Int) ≤ s.size := by omega
 have z2 : (s.size : Int) ≤ 12 := by omega
 obtain ⟨I, hI⟩ : ∃ I, Lib.idxFunc (letQ d) true s = I := ⟨_, rfl⟩
 rw [hI] at hC h3
 go_enter Tryz.func162, Tryz.ntmps162
 go_wp2_with (go_at_call 172; refine (hC _ (by simp) (by simp)).mono ?_; rintro e w' ⟨rfl, hb⟩)
 go_ret
 exact ⟨rfl, ((Below.refl _ w).alloc (Nat.le_refl _) _).trans (hb.mono (by simp))⟩
theorem tag_calls (s : ByteArray) (w : World) (h1 : 1 ≤ s.size) (h2 : s.size ≤ 4) (h3 : Lib.idxFunc tagQ true s < 0) :
  Calls Tryz.prog 175 #[.string s] w fun e w' => e = .returned (.bool true) ∧ Below w.heap.size w w' := by
 have hC := fun (W : World) => Any.strings_ContainsFunc layC 188 #[] (enters_of Tryz.func188 (by kernel_rfl) rfl) tagQ s W (tagP W)
 change ∀ W, Calls Tryz.prog 187 _ _ _ at hC
 have z1 : (1 : Int) ≤ s.size := by omega
 have z2 : (s.size : Int) ≤ 4 := by omega
 obtain ⟨I, hI⟩ : ∃ I, Lib.idxFunc tagQ true s = I := ⟨_, rfl⟩
 rw [hI] at hC h3
 go_enter Tryz.func175, Tryz.ntmps175
 go_wp2_with (go_at_call 187; refine (hC _).mono ?_; rintro e w' ⟨rfl, hb⟩)
 have hd : decide (0 ≤ I) = false := decide_eq_false (by omega)
 rw [hd]
 go_ret
 exact ⟨rfl, hb⟩
end Go.Proofs.YtekhlnihpfkkkaaGreatDoor
namespace Go.Proofs.YtekhlnihpfkkkaaGreatDoor
open Go.Eng Go.Lib Go.RowKit
theorem pure_calls {P : Program} {f : FuncId} {args : List PV} {b : Bool} (h : ∀ (F : PHeap) (w : World) (vs : List Value), vs.length = args.length → (∀ (i : Nat) p v, args[i]? = some p → vs[i]? = some v → RelV F noG (.p p) v) → Calls P f vs.toArray w fun e w' => e = .returned (.bool b) ∧ Below w.heap.size w w') : Pure P f args (vbool b) := by
 intro F w vs hsub hglob hlen hrel
 refine (h F w vs hlen hrel).mono ?_
 rintro e w' ⟨rfl, hb⟩
 refine ⟨_, F, rfl, fun k c hk => ?_, fun _ _ => rfl, ⟨hb.os, hb.tape, hb.output, hb.size, hb.block⟩, .one rfl (.p (.v rfl))⟩
 obtain ⟨T, fz, e1⟩ := hsub k c hk
 exact ⟨T, fz, (hb.block k (Array.getElem?_eq_some_iff.1 e1).1).trans e1⟩
theorem relS {F : PHeap} {l : List UInt8} {v : Value} (h : RelV F noG (.p (.s l)) v) : v = .string ⟨l.toArray⟩ := by
 cases h with
 | many hm => cases hm
 | one _ h => cases h with | p h => cases h; rfl
theorem relB {F : PHeap} {b : Bool} {v : Value} (h : RelV F noG (.p (.v (.bool b))) v) : v = .bool b := by
 cases h with
 | many hm => cases hm
 | one _ h => cases h with | p h => cases h; rfl
theorem letters_ok (l : List UInt8) (d : Bool) (h1 : 1 ≤ l.length) (h2 : l.length ≤ 12) (h3 : Lib.idxFunc (letQ d) true ⟨l.toArray⟩ < 0) : Pure Tryz.prog 162 [.s l, eB d] (vbool true) :=
 pure_calls fun F w vs hlen hrel => by
  match vs, hlen with
  | [a, b], _ =>
   have ha := relS (hrel 0 _ a rfl rfl)
   have hb := relB (hrel 1 _ b rfl rfl)
   subst ha hb
   exact let_calls ⟨l.toArray⟩ d w (by show 1 ≤ l.toArray.size; simpa using h1) (by show l.toArray.size ≤ 12; simpa using h2) h3
theorem tag_ok (l : List UInt8) (h1 : 1 ≤ l.length) (h2 : l.length ≤ 4) (h3 : Lib.idxFunc tagQ true ⟨l.toArray⟩ < 0) : Pure Tryz.prog 175 [.s l] (vbool true) :=
 pure_calls fun F w vs hlen hrel => by
  match vs, hlen with
  | [a], _ =>
   have ha := relS (hrel 0 _ a rfl rfl)
   subst ha
   exact tag_calls ⟨l.toArray⟩ w (by show 1 ≤ l.toArray.size; simpa using h1) (by show l.toArray.size ≤ 4; simpa using h2) h3
end Go.Proofs.YtekhlnihpfkkkaaGreatDoor
namespace Go.Proofs.YtekhlnihpfkkkaaGreatDoor
open Go.Eng
theorem ver_ok (h : Nat × Nat) (points : Int) (h1 : h.1 < 4) (hb : h.1 = 0 ∨ (h.2 : Int) < points) : ∃ (c d : Int) (r : List Int), Pure Tryz.prog 10 [eTs (hpM h), eI points] (.tup [.p (.agg [eI c, eI d, eRc r]), vint .i64 0]) := by
 obtain ⟨a, n⟩ := h
 match a, h1, hb with
 | 0, _, _ => exact ⟨0, 0, [], pure_le (verify0_ok points) ⟨⟨rfl, rfl, rfl, trivial⟩, rfl, trivial⟩⟩
 | 1, _, .inr hb => exact ⟨_, _, _, verify1_ok n points (by omega) hb⟩
 | 2, _, .inr hb => exact ⟨_, _, _, verify2_ok n points (by omega) hb⟩
 | 3, _, .inr hb => exact ⟨_, _, _, verify3_ok n points (by omega) hb⟩
theorem okO_nil : OkO [] := ⟨by decide, by decide, fun k hk => by simp at hk⟩
theorem exF_ok : Pure Tryz.prog 44 [eFn exF] (vint .i64 0) := by
 refine fck_ok exF (head_ok exF (letters_ok _ _ (by decide) (by decide) (by decide +kernel)) ⟨by decide, fun k hk => ?_, fun k j hk hj => ?_, fun k hk => ?_⟩ (by decide) (by decide)) (gls_ok exF ⟨by decide, fun k hk => ?_, fun k j hk hj => ?_, fun k hk => ?_, fun k hk hp => ?_, fun k hk hp => ?_, fun k hk => ?_⟩) (chs_ok exF ⟨by decide, fun k hk => by simp [exF] at hk, fun k hk => by simp [exF] at hk⟩) (lks_ok exF ⟨by decide, fun k hk => by simp [exF] at hk⟩) (kern_ok exF ⟨by decide, fun k hk => by simp [exF] at hk, fun k hk => by simp [exF] at hk⟩)
 ·have : k = 0 := by have : k < 1 := hk; omega
  subst this
  exact tag_ok _ (by decide) (by decide) (by decide +kernel)
 ·have : k < 1 := hk
  omega
 ·have : k = 0 := by have : k < 1 := hk; omega
  subst this; decide
 ·have : k < 3 := hk
  rcases k with _ | _ | _ | k <;> first | exact letters_ok _ _ (by decide) (by decide) (by decide +kernel) | omega
 ·have hk : k < 3 := hk
  rcases k with _ | _ | _ | k <;> rcases j with _ | _ | j <;> first | (exfalso; omega) | decide
 ·have : k < 3 := hk
  rcases k with _ | _ | _ | k <;> first | omega | decide
 ·have : k < 3 := hk
  rcases k with _ | _ | _ | k
  ·exact absurd hp (by decide)
  ·exact absurd hp (by decide)
  ·refine ⟨rfl, rfl, rfl, by decide, fun i hi => ?_⟩
   have : i < 2 := hi
   rcases i with _ | _ | i <;> first | omega | decide
  ·omega
 ·have : k < 3 := hk
  rcases k with _ | _ | _ | k
  ·obtain ⟨c, d, r, hv⟩ := ver_ok (0, 0) (cnt ([] : List (List Pt))) (by decide) (.inl rfl)
   exact fsim_ok exF gBlank c d r okO_nil ⟨by decide, fun j hj => by simp [gBlank] at hj, fun j hj => by simp [gBlank] at hj⟩ (by decide) hv
  ·obtain ⟨c, d, r, hv⟩ := ver_ok (1, 0) (cnt [barC]) (by decide) (.inr (by decide))
   refine fsim_ok exF gBar c d r ⟨by decide, by decide, fun i hi => ?_⟩ ⟨by decide, fun j hj => ?_, fun j hj i hi => ?_⟩ (by decide) hv
   ·have : i < 1 := hi
    have e : i = 0 := by omega
    subst e
    refine ⟨by decide, by decide, fun j hj => ?_⟩
    have : j < 4 := hj
    rcases j with _ | _ | _ | _ | j <;> first | omega | decide
   ·have : j < 1 := hj
    have e : j = 0 := by omega
    subst e; decide
   ·have : j < 1 := hj
    have e : j = 0 := by omega
    subst e
    have : i < 4 := hi
    rcases i with _ | _ | _ | _ | i <;> first | omega | decide
  ·exact absurd hp (by decide)
  ·omega
 ·have : k < 3 := hk
  have e : (exF.gls.getD k gl0).alts = [] := by rcases k with _ | _ | _ | k <;> first | rfl | omega
  rw [e]
  exact ⟨by decide, fun i hi => by simp at hi, fun i j hi => by simp at hi⟩
end Go.Proofs.YtekhlnihpfkkkaaGreatDoor
namespace Go.Proofs.YtekhlnihpfkkkaaGreatDoor
open Go.Eng
def shP (x y : Int) : List (List Pt) := ou1.map (·.map fun p => (p.1 + x, p.2.1 + y, p.2.2))
def pcCo : FuncId → List PV → Option D := fun f ar =>
 bif Nat.beq f 26 then some (vint .i64 0)
 else bif Nat.beq f 51 then some (.p (eO ou1))
 else bif Nat.beq f 50 then (match ar with
  | [_, .v (.int _ x), .v (.int _ y)] => some (.p (eO (shP x y)))
  | _ => none)
 else none
def hCo : FuncId → FH := fun f => bif Nat.beq f 8 then { rounds := 5, pc := pcCo, reg := fun r => bif Nat.beq r 7 then { g := 1, lit := true, za := List.range 60 } else bif Nat.beq r 8 then { g := 1, lit := true, frz := [11] } else { g := 1, lit := true } } else { rounds := 5, pc := pcCo, reg := fun _ => { g := 1, lit := true } }
set_option maxRecDepth 100000 in
theorem outT_ok (hc : Pure Tryz.prog 26 [eFn exF, eI 2, eIs [0], eI 8] (vint .i64 0)) (hs : Pure Tryz.prog 51 [eGl gBar, eIs [0], eI 8] (.p (eO ou1))) (h0 : Pure Tryz.prog 50 [eO ou1, eI 0, eI 0] (.p (eO (shP 0 0)))) (h1 : Pure Tryz.prog 50 [eO ou1, eI 256, eI 0] (.p (eO (shP 256 0)))) : Pure Tryz.prog 8 [eFn exF, eI 2, eIs [0], eI 8] (.tup [.p (eO ou2), vint .i64 0]) := by
 let K : D → Prop := fun d => endL (.tup [.p (eO ou2), vint .i64 0]) d []
 refine pure_byL 20 hCo (p :=
  let a0_8 : PV := PV.v (Value.int IntKind.i64 (Int.ofNat 0)); let a0_7 : List (List Pt) := shP (Int.ofNat 0) (Int.ofNat 0); let a0_6 : List PV := [a0_8]; let a0_5 : List (List Pt) := shP (Int.ofNat 256) (Int.ofNat 0); let a0_4 : PV := PV.lst 1 1 fun (i : Nat) => eC (ou1.getD i []); let a0_3 : List PV := [PV.lst 1 1 fun (i : Nat) => eI ([(0 : Int)].getD i (0 : Int)), PV.v (Value.int IntKind.i64 (Int.ofNat 8))]; let a0_2 : List D := List.map (fun (x : Nat × D) => x.snd) [(0, D.p (PV.lst 3 4 fun (i : Nat) => ePt ((a0_5.getD 0 []).getD i pt0)))]; let a0_1 : List D := List.map (fun (x : Nat × D) => x.snd) [(0, D.p (PV.lst 3 4 fun (i : Nat) => ePt ((a0_7.getD 0 []).getD i pt0)))]; let a0_0 : Prop := Eng.Pure Tryz.prog 51 (PV.agg [PV.s (exF.gls.getD 1 gl0).name, PV.v (Value.int IntKind.i64 (Int.ofNat 32)), PV.lst 1 1 fun (i : Nat) => eC ((exF.gls.getD 1 gl0).out.getD i []), PV.lst 2 1 fun (i : Nat) => eDl ((exF.gls.getD 1 gl0).del.getD i dl0), PV.lst 3 0 fun (i : Nat) => eT ((exF.gls.getD 1 gl0).parts.getD i tn0), PV.lst 3 3 fun (i : Nat) => eT ((hpM (exF.gls.getD 1 gl0).hint).getD i tn0), PV.lst 1 0 fun (i : Nat) => eI ((exF.gls.getD 1 gl0).alts.getD i (0 : Int))] :: a0_3) (D.p (eO ou1)); Eng.Pure Tryz.prog 26 (PV.agg [PV.s exF.name, a0_8, PV.lst 4 1 fun (i : Nat) => eAx (exF.axes.getD i ax0), PV.lst 7 3 fun (i : Nat) => eGl (exF.gls.getD i gl0), PV.lst 2 0 fun (i : Nat) => eR (exF.chars.getD i ((0 : Int), (0 : Int))), PV.lst 1 0 fun (i : Nat) => eLk (exF.lks.getD i []), PV.lst 3 0 fun (i : Nat) => eT (exF.kerns.getD i tn0)] :: PV.v (Value.int IntKind.i64 (Int.ofNat 2)) :: a0_3) (vint IntKind.i64 (0 : Int)) ∧ a0_0 ∧ Eng.Pure Tryz.prog 50 (a0_4 :: a0_8 :: a0_6) (D.p (eO a0_7)) ∧ a0_0 ∧ Eng.Pure Tryz.prog 50 (a0_4 :: PV.v (Value.int IntKind.i64 (Int.ofNat 256)) :: a0_6) (D.p (eO a0_5)) ∧ (∀ (j : Nat), let a1_0 : D := appF (appF (fun (x : Nat) => default) 0 fun (j : Nat) => a0_1.getD j default) 1 (fun (j : Nat) => a0_2.getD j default) j; j < 2 → a1_0 = D.p a1_0.unP) ∧ K (D.tup [D.p (PV.lst 1 2 fun (j : Nat) => (appF (appF (fun (x : Nat) => default) 0 fun (j : Nat) => a0_1.getD j default) 1 (fun (j : Nat) => a0_2.getD j default) j).unP), D.p a0_8])) (by kernel_rfl) ?_
 refine ⟨hc, hs, h0, hs, h1, fun j hj => ?_, ⟨rfl, fun j hj => ?_⟩, rfl, trivial⟩
 ·rcases j with _ | _ | j <;> first | rfl | (exfalso; omega)
 ·rcases j with _ | _ | j
  ·exact ⟨rfl, fun i hi => by rcases i with _ | _ | _ | _ | i <;> first | exact leP_refl _ | (exfalso; omega)⟩
  ·exact ⟨rfl, fun i hi => by rcases i with _ | _ | _ | _ | i <;> first | exact leP_refl _ | (exfalso; omega)⟩
  ·omega
end Go.Proofs.YtekhlnihpfkkkaaGreatDoor
namespace Go.Proofs.YtekhlnihpfkkkaaGreatDoor
open Go.Eng
def pcDr (o g : List (List Pt)) (a b w h : Int) (l : List Bool) : FuncId → List PV → Option D := fun f _ =>
 bif Nat.beq f 8 then some (.tup [.p (eO o), vint .i64 0]) else bif Nat.beq f 38 then some (.p (eO g)) else bif Nat.beq f 37 then some (.tup [.p (ePic a b w h l), vint .i64 0]) else none
def hDr (o g : List (List Pt)) (a b w h : Int) (l : List Bool) : FuncId → FH := fun _ => { rounds := 5, pc := pcDr o g a b w h l, reg := fun _ => { g := 1, sh := none } }
def selS (s : Int) : List (List Pt) := if s = 8 then ou1 else ou3
def selP (g : Int) : PV := if g = 1 then ePic 1 0 3 7 dt1 else ePic 1 0 7 7 dt2
def selU (g : Int) : List Int := if g = 2 then [1, 2] else []
def pcSa : FuncId → List PV → Option D := fun f ar =>
 bif Nat.beq f 13 then some (.p (eFn exF))
 else bif Nat.beq f 8 then (match ar with
  | [_, _, _, .v (.int _ s)] => some (.tup [.p (eO (selS s)), vint .i64 0])
  | _ => none)
 else bif Nat.beq f 14 then (match ar with
  | [_, .v (.int _ g), _, _] => some (.tup [.p (selP g), vint .i64 0])
  | _ => none)
 else bif Nat.beq f 15 then some (vbool true) else bif Nat.beq f 18 then some (vbool true)
 else bif Nat.beq f 17 then (match ar with
  | [_, .v (.int _ g)] => some (.p (eIs (selU g)))
  | _ => none)
 else none
def csSa (r : Nat) : List (Nat × D) :=
 bif Nat.beq r 2 || Nat.beq r 4 || Nat.beq r 5 then [(1, .p (eIs [0]))] else bif Nat.beq r 3 then [(1, .p (eIs [32]))]
 else bif Nat.beq r 8 then [(5, .p (eC (ou1.getD 0 []))), (6, .p (eO ou1)), (14, .p (eC (ou3.getD 0 []))), (15, .p (eO ou3))]
 else bif Nat.beq r 10 then [(3, .p (eBs [true, true, false])), (8, .p (eBs [true, true, false, false, true, true, false]))] else []
def hSa : FuncId → FH := fun f => bif Nat.beq f 4 then { rounds := 5, pc := pcSa, reg := fun r => { g := 1, lit := true, cs := csSa r } } else { rounds := 5, pc := pcSa, reg := fun _ => { g := 1, lit := true } }
set_option maxRecDepth 100000 in
theorem draw_ok (o g : List (List Pt)) (a b w h : Int) (l : List Bool) (n s : Int) (p : List Int) (h8 : Pure Tryz.prog 8 [eFn exF, eI n, eIs p, eI s] (.tup [.p (eO o), vint .i64 0])) (h38 : Pure Tryz.prog 38 [eO o] (.p (eO g))) (h37 : Pure Tryz.prog 37 [eO g, eI 2048] (.tup [.p (ePic a b w h l), vint .i64 0])) : Pure Tryz.prog 14 [eFn exF, eI n, eIs p, eI s] (.tup [.p (ePic a b w h l), vint .i64 0]) := by
 let K : D → Prop := fun d => endL (.tup [.p (ePic a b w h l), vint .i64 0]) d []
 refine pure_byL 20 (hDr o g a b w h l) (p :=
  let a0_0 : List D := [vint IntKind.i64 (0 : Int)]; Eng.Pure Tryz.prog 8 [PV.agg [PV.s exF.name, PV.v (Value.int IntKind.i64 exF.ver), PV.lst 4 1 fun (i : Nat) => eAx (exF.axes.getD i ax0), PV.lst 7 3 fun (i : Nat) => eGl (exF.gls.getD i gl0), PV.lst 2 0 fun (i : Nat) => eR (exF.chars.getD i ((0 : Int), (0 : Int))), PV.lst 1 0 fun (i : Nat) => eLk (exF.lks.getD i []), PV.lst 3 0 fun (i : Nat) => eT (exF.kerns.getD i tn0)], PV.v (Value.int IntKind.i64 n), PV.lst 1 p.length fun (i : Nat) => eI (p.getD i (0 : Int)), PV.v (Value.int IntKind.i64 s)] (D.tup (D.p (eO o) :: a0_0)) ∧ Eng.Pure Tryz.prog 38 [PV.lst 1 o.length fun (i : Nat) => eC (o.getD i [])] (D.p (eO g)) ∧ Eng.Pure Tryz.prog 37 [PV.lst 1 g.length fun (i : Nat) => eC (g.getD i []), PV.v (Value.int IntKind.i64 (2048 : Int))] (D.tup (D.p (ePic a b w h l) :: a0_0)) ∧ K (D.tup [D.p (PV.agg [PV.v (Value.int IntKind.i64 a), PV.v (Value.int IntKind.i64 b), PV.agg [eI w, eI h, eBs l]]), D.p (PV.v (Value.int IntKind.i64 (0 : Int)))])) (by kernel_rfl) ?_
 exact ⟨h8, h38, h37, leP_refl _, rfl, trivial⟩
set_option maxRecDepth 100000 in
theorem sanity_of (h1 : Pure Tryz.prog 8 [eFn exF, eI 1, eIs [0], eI 8] (.tup [.p (eO ou1), vint .i64 0])) (h3 : Pure Tryz.prog 8 [eFn exF, eI 1, eIs [32], eI 6] (.tup [.p (eO ou3), vint .i64 0])) (h2 : Pure Tryz.prog 8 [eFn exF, eI 2, eIs [0], eI 8] (.tup [.p (eO ou2), vint .i64 0])) : Pure Tryz.prog 4 [] (vbool true) := by
 let K : D → Prop := fun d => endL (vbool true) d []
 have d1 := draw_ok ou1 pg1 1 0 3 7 dt1 1 8 [0] h1 flat1_ok (dt1_eq ▸ dots1_ok)
 have d2 := draw_ok ou2 pg2 1 0 7 7 dt2 2 8 [0] h2 flat2_ok (dt2_eq ▸ dots2_ok)
 refine pure_byL 20 hSa (p :=
  let a0_24 : PV := PV.v (Value.int IntKind.i64 (3 : Int)); let a0_23 : PV := PV.v (Value.int IntKind.i64 (2 : Int)); let a0_22 : PV := PV.v (Value.int IntKind.i64 (1 : Int)); let a0_21 : PV := PV.v (Value.int IntKind.i64 (Int.ofNat 168)); let a0_20 : PV := PV.v (Value.int IntKind.i64 (Int.ofNat 192)); let a0_19 : PV := PV.v (Value.int IntKind.i64 (Int.ofNat 0)); let a0_18 : PV := PV.v (Value.int IntKind.i64 (Int.ofNat 1)); let a0_17 : List Int := [(32 : Int)]; let a0_16 : List Int := [(0 : Int)]; let a0_15 : PV := PV.v (Value.int IntKind.i64 (Int.ofNat 7)); let a0_14 : PV := PV.v (Value.int IntKind.i64 (Int.ofNat 64)); let a0_13 : List D := [vint IntKind.i64 (0 : Int)]; let a0_12 : List Pt := ou3.getD 0 []; let a0_11 : List Pt := ou1.getD 0 []; let a0_10 : List Bool := [true, true, false]; let a0_9 : List PV := [PV.v (Value.int IntKind.i64 (0 : Int))]; let a0_8 : List PV := [PV.v (Value.bool true), PV.v (Value.bool true), PV.v (Value.bool false)]; let a0_7 : List PV := [a0_19, PV.v (Value.bool true)]; let a0_6 : List PV := [PV.v (Value.int IntKind.i64 (Int.ofNat 384)), PV.v (Value.bool true)]; let a0_5 : List PV := [PV.v (Value.int IntKind.i64 (Int.ofNat 288)), PV.v (Value.bool true)]; let a0_4 : List Bool := true :: true :: false :: false :: a0_10; let a0_3 : PV := PV.agg (a0_14 :: a0_7); let a0_2 : List PV := [PV.lst 1 1 fun (i : Nat) => eI (a0_16.getD i (0 : Int)), PV.v (Value.int IntKind.i64 (8 : Int))]; let a0_1 : PV := PV.agg [PV.s exF.name, a0_19, PV.lst 4 1 fun (i : Nat) => eAx (exF.axes.getD i ax0), PV.lst 7 3 fun (i : Nat) => eGl (exF.gls.getD i gl0), PV.lst 2 0 fun (i : Nat) => eR (exF.chars.getD i ((0 : Int), (0 : Int))), PV.lst 1 0 fun (i : Nat) => eLk (exF.lks.getD i []), PV.lst 3 0 fun (i : Nat) => eT (exF.kerns.getD i tn0)]; let a0_0 : List PV := a0_1 :: a0_22 :: a0_2; Eng.Pure Tryz.prog 13 [] (D.p (eFn exF)) ∧ (∀ (j : Nat), j < 1 → a0_9.getD j default = eI (a0_16.getD j (0 : Int))) ∧ Eng.Pure Tryz.prog 8 a0_0 (D.tup (D.p (eO (selS (8 : Int))) :: a0_13)) ∧ (∀ (j : Nat), j < 1 → [PV.v (Value.int IntKind.i64 (32 : Int))].getD j default = eI (a0_17.getD j (0 : Int))) ∧ Eng.Pure Tryz.prog 8 [a0_1, a0_22, PV.lst 1 1 fun (i : Nat) => eI (a0_17.getD i (0 : Int)), PV.v (Value.int IntKind.i64 (6 : Int))] (D.tup (D.p (eO (selS (6 : Int))) :: a0_13)) ∧ (∀ (j : Nat), j < 1 → a0_9.getD j default = eI (a0_16.getD j (0 : Int))) ∧ Eng.Pure Tryz.prog 14 a0_0 (D.tup (D.p (selP (1 : Int)) :: a0_13)) ∧ (∀ (j : Nat), j < 1 → a0_9.getD j default = eI (a0_16.getD j (0 : Int))) ∧ Eng.Pure Tryz.prog 14 (a0_1 :: a0_23 :: a0_2) (D.tup (D.p (selP (2 : Int)) :: a0_13)) ∧ (∀ (j : Nat), j < 4 → [a0_3, PV.agg (a0_20 :: a0_7), PV.agg (a0_20 :: a0_6), PV.agg (a0_14 :: a0_6)].getD j default = ePt (a0_11.getD j pt0)) ∧ (∀ (j : Nat), j < 1 → [PV.lst 3 4 fun (i : Nat) => ePt (a0_11.getD i pt0)].getD j default = eC (ou1.getD j [])) ∧ Eng.Pure Tryz.prog 15 [PV.lst 1 1 fun (i : Nat) => eC ((selS (8 : Int)).getD i []), PV.lst 1 1 fun (i : Nat) => eC (ou1.getD i [])] (vbool true) ∧ (∀ (j : Nat), j < 4 → [a0_3, PV.agg (a0_21 :: a0_7), PV.agg (a0_21 :: a0_5), PV.agg (PV.v (Value.int IntKind.i64 (Int.ofNat 48)) :: a0_5)].getD j default = ePt (a0_12.getD j pt0)) ∧ (∀ (j : Nat), j < 1 → [PV.lst 3 4 fun (i : Nat) => ePt (a0_12.getD i pt0)].getD j default = eC (ou3.getD j [])) ∧ Eng.Pure Tryz.prog 15 [PV.lst 1 1 fun (i : Nat) => eC ((selS (6 : Int)).getD i []), PV.lst 1 1 fun (i : Nat) => eC (ou3.getD i [])] (vbool true) ∧ Eng.Pure Tryz.prog 17 [a0_1, a0_23] (D.p (eIs (selU (2 : Int)))) ∧ (∀ (j : Nat), j < 3 → a0_8.getD j default = eB (a0_10.getD j false)) ∧ Eng.Pure Tryz.prog 18 [PV.agg [a0_18, a0_19, PV.agg [PV.v (Value.int IntKind.i64 (Int.ofNat 3)), a0_15, PV.lst 1 21 fun (i : Nat) => eB (dt1.getD i false)]], a0_24, PV.lst 1 3 fun (i : Nat) => eB (a0_10.getD i false)] (vbool true) ∧ (∀ (j : Nat), j < 7 → (PV.v (Value.bool true) :: PV.v (Value.bool true) :: PV.v (Value.bool false) :: PV.v (Value.bool false) :: a0_8).getD j default = eB (a0_4.getD j false)) ∧ Eng.Pure Tryz.prog 18 [PV.agg [a0_18, a0_19, PV.agg [a0_15, a0_15, PV.lst 1 49 fun (i : Nat) => eB (dt2.getD i false)]], PV.v (Value.int IntKind.i64 (7 : Int)), PV.lst 1 7 fun (i : Nat) => eB (a0_4.getD i false)] (vbool true) ∧ Eng.Pure Tryz.prog 17 [a0_1, a0_24] (D.p (eIs (selU (3 : Int)))) ∧ K (D.p (PV.v (Value.bool true)))) (by kernel_rfl) ?_
 refine ⟨ex_ok, ?_, h1, ?_, h3, ?_, d1, ?_, d2, ?_, ?_, same1_ok, ?_, ?_, same3_ok, used2_ok, ?_, cols1_ok, ?_, cols2_ok, used3_ok, leP_refl _⟩
 all_goals (intro j hj; rcases j with _ | _ | _ | _ | _ | _ | _ | j <;> first | rfl | (exfalso; omega))
end Go.Proofs.YtekhlnihpfkkkaaGreatDoor
namespace Go.Proofs.YtekhlnihpfkkkaaGreatDoor
open Go.Eng
theorem idle95 : Idle Tryz.prog 95 3 := by
 intro n vs w hs
 obtain ⟨x0, x1, x2, rfl⟩ : ∃ x0 x1 x2, vs = #[x0, x1, x2] := ⟨vs[0], vs[1], vs[2], by
  apply Array.ext
  ·simp [hs]
  ·intro i h1 h2
   rcases i with _ | _ | _ | i
   ·rfl
   ·rfl
   ·rfl
   ·simp at h2; omega⟩
 have hf : Tryz.prog.funcs[95]? = some Tryz.f95 := by kernel_rfl
 refine callsDIn_of_wpSIn (F := Fence.wide) hf rfl trivial fun c₀ cs hu => ?_
 have hr : Tryz.f95.results = #[] := rfl
 have hn : Tryz.f95.ntmps = 9 := rfl
 apply wpSIn_seq
 apply wpSIn_region
 simp [wpOpsSIn, go_sem, recoverD, hu, hn, Exit.thenS]
 apply wpSIn_seq
 apply wpSIn_region
 simp [wpOpsSIn, go_sem, recoverD, hu, hn, Exit.thenS]
 refine wpSIn_cond (t := false) (by simp [Act.eval, Array.replicate]) ?_
 simp only [Bool.false_eq_true, if_false]
 refine wpSIn_of_wpIn rfl (wpIn_skip ?_)
 cases c₀
 simp_all [bodyPostS, results]
end Go.Proofs.YtekhlnihpfkkkaaGreatDoor
