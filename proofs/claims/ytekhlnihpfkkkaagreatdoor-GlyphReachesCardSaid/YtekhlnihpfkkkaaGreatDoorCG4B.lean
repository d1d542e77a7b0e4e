/-
  GlyphReaches: whatever the input, the call returns true, and each argument reads afterwards as it read before; tied to the program's text. (Part 4 of 6 of its proof.)
-/
import Derived.Test.YtekhlnihpfkkkaaGreatDoorCG4
set_option linter.unusedSimpArgs false
set_option linter.unusedVariables false
namespace Go.Proofs.YtekhlnihpfkkkaaGreatDoor
open Go.Eng
def ou1 : List (List Pt) := [[onP 64 0, onP 192 0, onP 192 384, onP 64 384]]
def ou2 : List (List Pt) := [[onP 64 0, onP 192 0, onP 192 384, onP 64 384], [onP 320 0, onP 448 0, onP 448 384, onP 320 384]]
def hFl (l : List Nat) : FuncId → FH := fun f => bif Nat.beq f 38 then { rounds := 10, reg := fun _ => { g := 1, lit := true }, za := l ++ [0], fr := l.map (1000 + ·) ++ [1000], fi := [1000], rt := [2] } else { rounds := 10, reg := fun _ => { g := 1, lit := true } }
set_option maxRecDepth 100000 in
theorem flat1_ok : Pure Tryz.prog 38 [eO ou1] (.p (eO pg1)) := by
 let K : D → Prop := fun d => endL (.p (eO pg1)) d []
 refine pure_byL 20 (hFl [15]) (p :=
  let a0_6 : PV := PV.v (Value.int IntKind.i64 (Int.ofNat 6144)); let a0_5 : PV := PV.v (Value.int IntKind.i64 (Int.ofNat 2048)); let a0_4 : List D := [D.own 15]; let a0_3 : List PV := [PV.v (Value.int IntKind.i64 (Int.ofNat 12288)), PV.v (Value.bool true)]; let a0_2 : List PV := [PV.v (Value.int IntKind.i64 (Int.ofNat 0)), PV.v (Value.bool true)]; let a0_1 : List D := [D.p (PV.agg (a0_5 :: a0_2)), D.p (PV.agg (a0_6 :: a0_2)), D.p (PV.agg (a0_6 :: a0_3)), D.p (PV.agg (a0_5 :: a0_3))]; let a0_0 : PV := PV.lst 3 4 fun (j : Nat) => (nthD a0_1 j).unP; (∀ (j : Nat), j < 4 → nthD a0_1 j = D.p (nthD a0_1 j).unP) ∧ (∀ (j : Nat), let a1_0 : D := (D.frz 15 a0_0 (nthD a0_4 j)).getD (nthD a0_4 j); j < 1 → a1_0 = D.p a1_0.unP) ∧ K (D.p (PV.lst 1 1 fun (j : Nat) => ((D.frz 15 a0_0 (nthD a0_4 j)).getD (nthD a0_4 j)).unP))) (by kernel_rfl) ?_
 have hK : ∀ f : Nat → PV, (∀ j, j < 1 → leP (f j) (eC (pg1.getD j []))) → K (.p (.lst 1 1 f)) := fun f h => ⟨rfl, h⟩
 simp only [and_true, true_and]
 refine ⟨fun j hj => ?_, fun j hj => ?_, hK _ fun j hj => ?_⟩
 rotate_left 2
 ·rcases j with _ | _ | j
  all_goals first | (exfalso; omega) | (refine ⟨rfl, fun i hi => ?_⟩; rcases i with _ | _ | _ | _ | i <;> first | exact leP_refl _ | (exfalso; omega))
 all_goals (rcases j with _ | _ | _ | _ | j <;> first | rfl | (exfalso; omega))
set_option maxRecDepth 100000 in
theorem flat2_ok : Pure Tryz.prog 38 [eO ou2] (.p (eO pg2)) := by
 let K : D → Prop := fun d => endL (.p (eO pg2)) d []
 refine pure_byL 20 (hFl [15, 30]) (p :=
  let a0_10 : PV := PV.v (Value.int IntKind.i64 (Int.ofNat 6144)); let a0_9 : PV := PV.v (Value.int IntKind.i64 (Int.ofNat 10240)); let a0_8 : PV := PV.v (Value.int IntKind.i64 (Int.ofNat 2048)); let a0_7 : PV := PV.v (Value.int IntKind.i64 (Int.ofNat 14336)); let a0_6 : List PV := [PV.v (Value.int IntKind.i64 (Int.ofNat 12288)), PV.v (Value.bool true)]; let a0_5 : List PV := [PV.v (Value.int IntKind.i64 (Int.ofNat 0)), PV.v (Value.bool true)]; let a0_4 : List D := [D.own 15, D.own 30]; let a0_3 : List D := [D.p (PV.agg (a0_9 :: a0_5)), D.p (PV.agg (a0_7 :: a0_5)), D.p (PV.agg (a0_7 :: a0_6)), D.p (PV.agg (a0_9 :: a0_6))]; let a0_2 : List D := [D.p (PV.agg (a0_8 :: a0_5)), D.p (PV.agg (a0_10 :: a0_5)), D.p (PV.agg (a0_10 :: a0_6)), D.p (PV.agg (a0_8 :: a0_6))]; let a0_1 : PV := PV.lst 3 4 fun (j : Nat) => (nthD a0_3 j).unP; let a0_0 : PV := PV.lst 3 4 fun (j : Nat) => (nthD a0_2 j).unP; (∀ (j : Nat), j < 4 → nthD a0_2 j = D.p (nthD a0_2 j).unP) ∧ (∀ (j : Nat), j < 4 → nthD a0_3 j = D.p (nthD a0_3 j).unP) ∧ (∀ (j : Nat), let a1_1 : D := (D.frz 15 a0_0 (nthD a0_4 j)).getD (nthD a0_4 j); let a1_0 : D := (D.frz 30 a0_1 a1_1).getD a1_1; j < 2 → a1_0 = D.p a1_0.unP) ∧ K (D.p (PV.lst 1 2 fun (j : Nat) => ((D.frz 30 a0_1 ((D.frz 15 a0_0 (nthD a0_4 j)).getD (nthD a0_4 j))).getD ((D.frz 15 a0_0 (nthD a0_4 j)).getD (nthD a0_4 j))).unP))) (by kernel_rfl) ?_
 have hK : ∀ f : Nat → PV, (∀ j, j < 2 → leP (f j) (eC (pg2.getD j []))) → K (.p (.lst 1 2 f)) := fun f h => ⟨rfl, h⟩
 simp only [and_true, true_and]
 refine ⟨fun j hj => ?_, fun j hj => ?_, fun j hj => ?_, hK _ fun j hj => ?_⟩
 rotate_left 3
 ·rcases j with _ | _ | j
  all_goals first | (exfalso; omega) | (refine ⟨rfl, fun i hi => ?_⟩; rcases i with _ | _ | _ | _ | i <;> first | exact leP_refl _ | (exfalso; omega))
 all_goals (rcases j with _ | _ | _ | _ | j <;> first | rfl | (exfalso; omega))
end Go.Proofs.YtekhlnihpfkkkaaGreatDoor
namespace Go.Proofs.YtekhlnihpfkkkaaGreatDoor
open Go.Eng
def ou3 : List (List Pt) := [[onP 64 0, onP 168 0, onP 168 288, onP 48 288]]
def barC : List Pt := [onP 8 0, onP 24 0, onP 24 48, onP 8 48]
def gBlank : Gl := ⟨[98, 108, 97, 110, 107], 32, [], [], [], (0, 0), []⟩
def barD : List Dl := [([(0, 64, 64)], [(0, 0), (8, 0), (8, 0), (0, 0)])]
def gBar : Gl := ⟨[98, 97, 114], 32, [barC], barD, [], (1, 0), []⟩
def twoP : List Tn := [(1, 0, 0), (1, 32, 0)]
def gTwo : Gl := ⟨[116, 119, 111], 64, [], [], twoP, (0, 0), []⟩
def exF : Ft := ⟨[112, 108, 97, 105, 110], 0, [⟨[119], 0, 0, 64⟩], [gBlank, gBar, gTwo], [], [], []⟩
def ndl : PV := .v (.slice none 0 0)
def exG (j : Nat) : PV := [.agg [.s gBlank.name, eI 32, ndl, ndl, ndl, ndl, ndl], .agg [.s gBar.name, eI 32, eO [barC], eDls barD, ndl, eTs (hpM (1, 0)), ndl], .agg [.s gTwo.name, eI 64, ndl, ndl, eTs twoP, ndl, ndl]].getD j default
def hEx : FuncId → FH := fun f => bif Nat.beq f 13 then { rounds := 5, reg := fun r => { g := 1, sh := none, cs := bif Nat.beq r 1 then [(4, .p (eC barC)), (5, .p (eO [barC])), (7, .p (eTs [(0, 64, 64)])), (12, .p (eMs [(0, 0), (8, 0), (8, 0), (0, 0)])), (14, .p (eDls barD)), (18, .p (eTs (hpM (1, 0))))] else bif Nat.beq r 2 then [(2, .p (eTs twoP))] else bif Nat.beq r 3 then [(1, .p (eL eAx 4 ax0 exF.axes)), (5, .p (.lst 7 3 exG))] else [] } } else { rounds := 5, reg := fun _ => { g := 1, sh := none } }
def hLit : FuncId → FH := fun _ => { rounds := 60, reg := fun _ => { g := 1, lit := true } }
set_option maxRecDepth 100000 in
theorem ex_ok : Pure Tryz.prog 13 [] (.p (eFn exF)) := by
 let K : D → Prop := fun d => endL (.p (eFn exF)) d []
 refine pure_byL 20 hEx (p :=
  let a0_21 : PV := PV.v (Value.int IntKind.i64 (32 : Int)); let a0_20 : PV := PV.v (Value.int IntKind.i64 (24 : Int)); let a0_19 : PV := PV.v (Value.int IntKind.i64 (8 : Int)); let a0_18 : PV := PV.v (Value.int IntKind.i64 (0 : Int)); let a0_17 : PV := PV.v (Value.int IntKind.i64 (64 : Int)); let a0_16 : PV := PV.v (Value.int IntKind.i64 (1 : Int)); let a0_15 : List PV := [a0_18]; let a0_14 : List PV := [a0_17]; let a0_13 : Int × Int := ((8 : Int), (0 : Int)); let a0_12 : Int × Int := ((0 : Int), (0 : Int)); let a0_11 : PV := PV.v (Value.slice none 0 0); let a0_10 : List Tn := hpM (1, 0); let a0_9 : List PV := [a0_18, PV.v (Value.bool true)]; let a0_8 : List PV := [PV.v (Value.int IntKind.i64 (48 : Int)), PV.v (Value.bool true)]; let a0_7 : List PV := [a0_11]; let a0_6 : List PV := a0_18 :: a0_15; let a0_5 : PV := PV.agg a0_6; let a0_4 : PV := PV.agg (a0_19 :: a0_15); let a0_3 : List Tn := [((0 : Int), (64 : Int), (64 : Int))]; let a0_2 : List PV := a0_11 :: a0_7; let a0_1 : List PV := a0_11 :: a0_2; let a0_0 : List (Int × Int) := [a0_12, a0_13, a0_13, a0_12]; (∀ (j : Nat), j < 4 → [PV.agg (a0_19 :: a0_9), PV.agg (a0_20 :: a0_9), PV.agg (a0_20 :: a0_8), PV.agg (a0_19 :: a0_8)].getD j default = ePt (barC.getD j pt0)) ∧ (∀ (j : Nat), j < 1 → [PV.lst 3 4 fun (i : Nat) => ePt (barC.getD i pt0)].getD j default = eC ([barC].getD j [])) ∧ (∀ (j : Nat), j < 1 → [PV.agg (a0_18 :: a0_17 :: a0_14)].getD j default = eT (a0_3.getD j tn0)) ∧ (∀ (j : Nat), j < 4 → [a0_5, a0_4, a0_4, a0_5].getD j default = eR (a0_0.getD j a0_12)) ∧ (∀ (j : Nat), j < 1 → [PV.agg [PV.lst 3 1 fun (i : Nat) => eT (a0_3.getD i tn0), PV.lst 2 4 fun (i : Nat) => eR (a0_0.getD i a0_12)]].getD j default = eDl (barD.getD j dl0)) ∧ (∀ (j : Nat), j < 3 → [PV.agg (PV.v (Value.int IntKind.i64 (10 : Int)) :: a0_6), PV.agg (a0_19 :: a0_6), PV.agg (PV.v (Value.int IntKind.i64 (12 : Int)) :: a0_6)].getD j default = eT (a0_10.getD j tn0)) ∧ (∀ (j : Nat), j < 2 → [PV.agg (a0_16 :: a0_6), PV.agg (a0_16 :: a0_21 :: a0_15)].getD j default = eT (twoP.getD j tn0)) ∧ (∀ (j : Nat), j < 1 → [PV.agg (PV.s ([(119 : UInt8)] : List UInt8) :: a0_18 :: a0_18 :: a0_14)].getD j default = eAx (exF.axes.getD j ax0)) ∧ (∀ (j : Nat), j < 3 → [PV.agg (PV.s ([(98 : UInt8), (108 : UInt8), (97 : UInt8), (110 : UInt8), (107 : UInt8)] : List UInt8) :: a0_21 :: a0_11 :: a0_11 :: a0_1), PV.agg (PV.s ([(98 : UInt8), (97 : UInt8), (114 : UInt8)] : List UInt8) :: a0_21 :: (PV.lst 1 1 fun (i : Nat) => eC ([barC].getD i [])) :: (PV.lst 2 1 fun (i : Nat) => eDl (barD.getD i dl0)) :: a0_11 :: (PV.lst 3 3 fun (i : Nat) => eT (a0_10.getD i tn0)) :: a0_7), PV.agg (PV.s ([(116 : UInt8), (119 : UInt8), (111 : UInt8)] : List UInt8) :: a0_17 :: a0_11 :: a0_11 :: (PV.lst 3 2 fun (i : Nat) => eT (twoP.getD i tn0)) :: a0_2)].getD j default = exG j) ∧ K (D.p (PV.agg (PV.s ([(112 : UInt8), (108 : UInt8), (97 : UInt8), (105 : UInt8), (110 : UInt8)] : List UInt8) :: a0_18 :: (PV.lst 4 1 fun (i : Nat) => eAx (exF.axes.getD i ax0)) :: PV.lst 7 3 exG :: a0_1)))) (by kernel_rfl) ?_
 have hK : ∀ x : PV, leP x (eFn exF) → K (.p x) := fun x h => h
 simp only [and_true, true_and]
 refine ⟨?_, ?_, ?_, ?_, ?_, ?_, ?_, ?_, ?_, hK _ ⟨rfl, rfl, leP_refl _, ⟨rfl, fun j hj => ?_⟩, rfl, rfl, rfl, trivial⟩⟩
 rotate_right 1
 ·rcases j with _ | _ | _ | j
  ·exact ⟨rfl, rfl, rfl, rfl, rfl, rfl, rfl, trivial⟩
  ·exact ⟨rfl, rfl, leP_refl _, leP_refl _, rfl, leP_refl _, rfl, trivial⟩
  ·exact ⟨rfl, rfl, rfl, rfl, leP_refl _, rfl, rfl, trivial⟩
  ·omega
 all_goals (intro j hj; rcases j with _ | _ | _ | _ | j <;> first | rfl | (exfalso; omega))
set_option maxRecDepth 100000 in
theorem same1_ok : Pure Tryz.prog 15 [eO ou1, eO ou1] (vbool true) := by
 let K : D → Prop := fun d => endL (vbool true) d []
 refine pure_byL 20 hLit (p :=
  K (D.p (PV.v (Value.bool true)))) (by kernel_rfl) ?_
 exact leP_refl _
set_option maxRecDepth 100000 in
theorem same3_ok : Pure Tryz.prog 15 [eO ou3, eO ou3] (vbool true) := by
 let K : D → Prop := fun d => endL (vbool true) d []
 refine pure_byL 20 hLit (p :=
  K (D.p (PV.v (Value.bool true)))) (by kernel_rfl) ?_
 exact leP_refl _
set_option maxRecDepth 100000 in
theorem cols1_ok : Pure Tryz.prog 18 [ePic 1 0 3 7 dt1, eI 3, eBs [true, true, false]] (vbool true) := by
 let K : D → Prop := fun d => endL (vbool true) d []
 refine pure_byL 20 hLit (p :=
  K (D.p (PV.v (Value.bool true)))) (by kernel_rfl) ?_
 exact leP_refl _
set_option maxRecDepth 100000 in
theorem cols2_ok : Pure Tryz.prog 18 [ePic 1 0 7 7 dt2, eI 7, eBs [true, true, false, false, true, true, false]] (vbool true) := by
 let K : D → Prop := fun d => endL (vbool true) d []
 refine pure_byL 20 hLit (p :=
  K (D.p (PV.v (Value.bool true)))) (by kernel_rfl) ?_
 exact leP_refl _
end Go.Proofs.YtekhlnihpfkkkaaGreatDoor
namespace Go.Proofs.YtekhlnihpfkkkaaGreatDoor
open Go.RowKit Go.Maps Go.Sort Go.Shelf
def layK_ren : Go.Shelf.Ren := ⟨fun | 7 => 41 | 10 => 68 | n => n, fun | 23 => 116 | 26 => 3 | 3 => 4 | 28 => 120 | 0 => 0 | 27 => 119 | 33 => 133 | 4 => 4 | n => n, fun | n => n⟩
theorem layK : Go.Proofs.SlLaysZI.n7 Tryz.prog layK_ren where
 mixed := by kernel_rfl
 f7 := ⟨ Tryz.f41.name, by decide, Tryz.func41.trans (congrArg some (by kernel_rfl))⟩
 f10 := ⟨ Tryz.f68.name, by decide, Tryz.func68.trans (congrArg some (by kernel_rfl))⟩
 t0 := Tryz.underlying0
 a0 := Tryz.isAgg0
 z0 := Tryz.sizeOf0
 v0 := Tryz.zeroValue0
 t4 := Tryz.underlying4
 a4 := Tryz.isAgg4
 z4 := Tryz.sizeOf4
 v4 := Tryz.zeroValue4
 t23 := Tryz.underlying116
 a23 := Tryz.isAgg116
 z23 := Tryz.sizeOf116
 v23 := Tryz.zeroValue116
 t26 := Tryz.underlying3
 a26 := Tryz.isAgg3
 z26 := Tryz.sizeOf3
 v26 := Tryz.zeroValue3
 t27 := Tryz.underlying119
 a27 := Tryz.isAgg119
 z27 := Tryz.sizeOf119
 v27 := Tryz.zeroValue119
 t28 := Tryz.underlying120
 a28 := Tryz.isAgg120
 z28 := Tryz.sizeOf120
 v28 := Tryz.zeroValue120
 t33 := Tryz.underlying133
 a33 := Tryz.isAgg133
 z33 := Tryz.sizeOf133
 v33 := Tryz.zeroValue133
def layS_ren : Go.Shelf.Ren := ⟨fun | 6 => 40 | 8 => 67 | 9 => 34 | 11 => 94 | 13 => 59 | 12 => 58 | 23 => 86 | 24 => 87 | 14 => 77 | 15 => 78 | 16 => 79 | 17 => 80 | 18 => 81 | 19 => 82 | 20 => 83 | 21 => 84 | 22 => 85 | 25 => 104 | 26 => 105 | 27 => 106 | 28 => 107 | 29 => 108 | 30 => 109 | 31 => 118 | n => n, fun | 26 => 3 | 28 => 120 | 24 => 23 | 0 => 0 | 3 => 3 | 37 => 149 | 48 => 175 | 50 => 177 | 4 => 4 | 40 => 168 | 39 => 167 | 45 => 97 | 5 => 5 | 9 => 9 | 51 => 197 | 55 => 201 | 57 => 212 | 58 => 181 | 33 => 133 | n => n, fun | n => n⟩
theorem layS : Go.Proofs.SlLaysZI.n6 Tryz.prog layS_ren where
 mixed := by kernel_rfl
 f6 := ⟨ Tryz.f40.name, by decide, Tryz.func40.trans (congrArg some (by kernel_rfl))⟩
 f8 := ⟨ Tryz.f67.name, by decide, Tryz.func67.trans (congrArg some (by kernel_rfl))⟩
 f11 := ⟨ Tryz.f94.name, by decide, Tryz.func94.trans (congrArg some (by kernel_rfl))⟩
 t0 := Tryz.underlying0
 a0 := Tryz.isAgg0
 z0 := Tryz.sizeOf0
 v0 := Tryz.zeroValue0
 t24 := Tryz.underlying23
 a24 := Tryz.isAgg23
 z24 := Tryz.sizeOf23
 v24 := Tryz.zeroValue23
 t26 := Tryz.underlying3
 a26 := Tryz.isAgg3
 z26 := Tryz.sizeOf3
 v26 := Tryz.zeroValue3
 t28 := Tryz.underlying120
 a28 := Tryz.isAgg120
 z28 := Tryz.sizeOf120
 v28 := Tryz.zeroValue120
 i26 := by kernel_rfl
def layM_ren : Go.Shelf.Ren := ⟨fun | 5 => 34 | 8 => 59 | 7 => 58 | 19 => 86 | 20 => 87 | 10 => 77 | 11 => 78 | 12 => 79 | 13 => 80 | 14 => 81 | 15 => 82 | 16 => 83 | 17 => 84 | 18 => 85 | 30 => 104 | 31 => 105 | 32 => 106 | 33 => 107 | 34 => 108 | 35 => 109 | 40 => 118 | n => n, fun | 23 => 23 | 25 => 3 | 3 => 3 | 32 => 149 | 22 => 23 | 0 => 0 | 44 => 175 | 46 => 177 | 4 => 4 | 36 => 168 | 35 => 167 | 41 => 97 | 5 => 5 | 9 => 9 | 53 => 197 | 57 => 201 | 63 => 212 | 64 => 181 | n => n, fun | n => n⟩
theorem layM : Go.Proofs.SlLaysM.n5 Tryz.prog layM_ren where
 mixed := by kernel_rfl
 f5 := ⟨ Tryz.f34.name, by decide, Tryz.func34.trans (congrArg some (by kernel_rfl))⟩
 f7 := ⟨ Tryz.f58.name, by decide, Tryz.func58.trans (congrArg some (by kernel_rfl))⟩
 f8 := Tryz.func59.trans (congrArg some (by kernel_rfl))
 f10 := ⟨ Tryz.f77.name, by decide, Tryz.func77.trans (congrArg some (by kernel_rfl))⟩
 f11 := ⟨ Tryz.f78.name, by decide, Tryz.func78.trans (congrArg some (by kernel_rfl))⟩
 f12 := ⟨ Tryz.f79.name, by decide, Tryz.func79.trans (congrArg some (by kernel_rfl))⟩
 f13 := ⟨ Tryz.f80.name, by decide, Tryz.func80.trans (congrArg some (by kernel_rfl))⟩
 f14 := ⟨ Tryz.f81.name, by decide, Tryz.func81.trans (congrArg some (by kernel_rfl))⟩
 f15 := ⟨ Tryz.f82.name, by decide, Tryz.func82.trans (congrArg some (by kernel_rfl))⟩
 f16 := ⟨ Tryz.f83.name, by decide, Tryz.func83.trans (congrArg some (by kernel_rfl))⟩
 f17 := ⟨ Tryz.f84.name, by decide, Tryz.func84.trans (congrArg some (by kernel_rfl))⟩
 f18 := ⟨ Tryz.f85.name, by decide, Tryz.func85.trans (congrArg some (by kernel_rfl))⟩
 f19 := Tryz.func86.trans (congrArg some (by kernel_rfl))
 f20 := Tryz.func87.trans (congrArg some (by kernel_rfl))
 f30 := ⟨ Tryz.f104.name, by decide, Tryz.func104.trans (congrArg some (by kernel_rfl))⟩
 f31 := Tryz.func105.trans (congrArg some (by kernel_rfl))
 f32 := Tryz.func106.trans (congrArg some (by kernel_rfl))
 f33 := ⟨ Tryz.f107.name, by decide, Tryz.func107.trans (congrArg some (by kernel_rfl))⟩
 f34 := ⟨ Tryz.f108.name, by decide, Tryz.func108.trans (congrArg some (by kernel_rfl))⟩
 f35 := ⟨ Tryz.f109.name, by decide, Tryz.func109.trans (congrArg some (by kernel_rfl))⟩
 f40 := ⟨ Tryz.f118.name, by decide, Tryz.func118.trans (congrArg some (by kernel_rfl))⟩
 t0 := Tryz.underlying0
 a0 := Tryz.isAgg0
 z0 := Tryz.sizeOf0
 v0 := Tryz.zeroValue0
 t3 := Tryz.underlying3
 a3 := Tryz.isAgg3
 z3 := Tryz.sizeOf3
 v3 := Tryz.zeroValue3
 t4 := Tryz.underlying4
 a4 := Tryz.isAgg4
 z4 := Tryz.sizeOf4
 v4 := Tryz.zeroValue4
 t5 := Tryz.underlying5
 a5 := Tryz.isAgg5
 z5 := Tryz.sizeOf5
 v5 := Tryz.zeroValue5
 t9 := Tryz.underlying9
 a9 := Tryz.isAgg9
 z9 := Tryz.sizeOf9
 v9 := Tryz.zeroValue9
 t22 := Tryz.underlying23
 a22 := Tryz.isAgg23
 z22 := Tryz.sizeOf23
 v22 := Tryz.zeroValue23
 t23 := Tryz.underlying23
 a23 := Tryz.isAgg23
 z23 := Tryz.sizeOf23
 v23 := Tryz.zeroValue23
 t25 := Tryz.underlying3
 a25 := Tryz.isAgg3
 z25 := Tryz.sizeOf3
 v25 := Tryz.zeroValue3
 t32 := Tryz.underlying149
 a32 := Tryz.isAgg149
 z32 := Tryz.sizeOf149
 v32 := Tryz.zeroValue149
 t35 := Tryz.underlying167
 a35 := Tryz.isAgg167
 z35 := Tryz.sizeOf167
 v35 := Tryz.zeroValue167
 t36 := Tryz.underlying168
 a36 := Tryz.isAgg168
 z36 := Tryz.sizeOf168
 v36 := Tryz.zeroValue168
 t41 := Tryz.underlying97
 a41 := Tryz.isAgg97
 z41 := Tryz.sizeOf97
 v41 := Tryz.zeroValue97
 t44 := Tryz.underlying175
 a44 := Tryz.isAgg175
 z44 := Tryz.sizeOf175
 v44 := Tryz.zeroValue175
 t46 := Tryz.underlying177
 a46 := Tryz.isAgg177
 z46 := Tryz.sizeOf177
 v46 := Tryz.zeroValue177
 t53 := Tryz.underlying197
 a53 := Tryz.isAgg197
 z53 := Tryz.sizeOf197
 v53 := Tryz.zeroValue197
 t57 := Tryz.underlying201
 a57 := Tryz.isAgg201
 z57 := Tryz.sizeOf201
 v57 := Tryz.zeroValue201
 t63 := Tryz.underlying212
 a63 := Tryz.isAgg212
 z63 := Tryz.sizeOf212
 v63 := Tryz.zeroValue212
 t64 := Tryz.underlying181
 a64 := Tryz.isAgg181
 z64 := Tryz.sizeOf181
 v64 := Tryz.zeroValue181
theorem sortsK (m : Nat) : AnyZI.SortsIn Tryz.prog layS_ren Fence.wide m :=
 ⟨fun blk off cap ss W hH hblk hsz => callsIn_wide.2 (AnyM.slices_Sort_int layM blk off cap ss W hH hblk hsz), fun p cap W => callsIn_wide.2 (AnyM.slices_Sort_int_none layM p cap W)⟩
end Go.Proofs.YtekhlnihpfkkkaaGreatDoor
namespace Go.Eng
def plug (g : FuncId) (p : CallW) (W : YW → CallW) : YW → CallW := fun Y nb f args H K => bif Nat.beq f g then p nb f args H K else W Y nb f args H K
theorem plug_sound {P : Program} {m0 : Nat} {g : FuncId} {p : CallW} {W : YW → CallW} (hp : ∀ C : Cx, C.P = P → SoundC C p) (hW : SoundG P m0 W) : SoundG P m0 (plug g p W) := by
 intro C Y hP hm hY f args H K h
 unfold plug at h
 cases e : Nat.beq f g with
 | true => rw [e] at h; exact hp C hP f args H K h
 | false => rw [e] at h; exact hW C Y hP hm hY f args H K h
def WTop (P : Program) (m0 : Nat) (h : FuncId → FH) (CALL : YW → CallW) : YW → CallW := fun Y nb f args H K => match P.funcs[f]? with
  | some fn => match fn.body with
   | some c => if Nat.ble args.length fn.ntmps then fN (max nb H.length) fun nb => WC P m0 nb fn.ntmps CALL Y f (h f) c true [] (argED args 0) H (endW P f fn.results.toList K) else Stuck f 0 6001
   | none => Stuck f 0 6002
  | none => Stuck f 0 6003
theorem WTop_sound {P : Program} {m0 : Nat} {h : FuncId → FH} {CALL : YW → CallW} (hC : SoundG P m0 CALL) : SoundG P m0 (WTop P m0 h CALL) := by
  intro C Y hP hm hY f args H K hw F γ w vs hS hlen hrel R hR
  subst hP hm
  simp only [WTop] at hw
  split at hw
  ·rename_i fn hf
   split at hw
   ·rename_i c hb
    split at hw
    ·rename_i hle
     rw [fN_eq] at hw
     let C' : Cx := { C with N := fn.ntmps, B := C.B.low F γ H.length, D := [] }
     have hS' : SLH C' F γ H w := hS.base' ⟨hS.base, fun _ _ x => x, fun _ _ _ x => x⟩
     refine callsIn_wide.1 (callsIn_of_wp_marks (F := Fence.wide) (n := 1) hf hb trivial ?_)
     refine wpIn_wide.2 (WC_sound (C := C') hC (hY.over ⟨rfl, rfl, rfl, rfl, fun _ _ h => h, fun _ _ h => h.1⟩) hw (fun C2 e2 _ e L' E' H' a w' hK hSL => ?_) _ w (sl_enter rfl rfl (Nat.le_of_ble_eq_true hle) hS' hlen hrel))
     obtain ⟨R2, ms, rfl, x1, x2, x3, x4⟩ := e2.eq
     obtain ⟨⟨F', γ', k1, k2⟩, k3, k4⟩ := hSL
     have fin : ∀ {vc ds}, evRess C.P H' E' fn.results.toList = some (vc, ds) → andL true vc (fLw (fD 3) ds fun ds => K (one ds) H') → LeavesInM Fence.wide 1 C.P fn a.tmps R a.defers .returning w' := by
      intro vc ds h1 h2
      have h2 := andL_spec h2
      rw [fLD_eq] at h2
      rw [k4]
      show LeavesInM _ _ _ _ _ _ (ms.map _ ++ []) _ _
      rw [List.append_nil]
      refine leaves_marks ms { C' with R := R2, D := ms.map dOf ++ C'.D } w' rfl x2 (fun r hr => (x3 r hr).2) x4 k1 fun R3 w3 hR3 h3 => ?_
      obtain ⟨vs', g1, g2, g3⟩ := evRess_sound h3 k2 h1 h2.1
      have h4 : SLH C F' γ' H' w3 := by
       have hb := h3.base
       refine ⟨h3.sub, hb.1, h3.glob, h3.ext, h3.top, h3.free, h3.obj, h3.apart, h3.given, h3.dis, h3.os, h3.tape, h3.output, h3.grows, h3.block, fun b o ho => ?_, h3.live⟩
       refine h3.raw b o (hR3 b o (x1 b o ho) fun hm => ?_)
       have := (x3 b hm).1
       have ho' : C'.R b = some o := ho
       rw [ho'] at this
       cases this
      exact ⟨_, results_run g3, hR _ _ _ F' γ' w3 h2.2 h4 (one_base g1 g2) k1.base.2.1 fun i g hg => k1.base.2.2 i g (by
       by_cases hi : i < H.length
       ·exact hi
       ·rw [hS.top i (by omega)] at hg; cases hg) hg⟩
     cases e with
     | x i => exact hK.elim
     | n =>
      simp only [endW] at hK
      split at hK
      ·rename_i vc ds h1; exact fin h1 hK
      ·exact hK.elim
     | r =>
      simp only [endW] at hK
      split at hK
      ·rename_i vc ds h1; exact fin h1 hK
      ·exact hK.elim
    ·exact hw.elim
   ·exact hw.elim
  ·exact hw.elim
theorem pure_byC {P : Program} {f : FuncId} {args : List PV} {res : D} {W : YW → CallW} {p : Prop} (hW : SoundG P 0 W) (e : p = W [] 0 f (args.map .p) [] (endL res)) (hp : p) : Pure P f args res := by
 intro F w vs hsub hglob hlen hrel
 refine hW ⟨P, w, F, [], 0, .top, noR, []⟩ [] rfl rfl YOK.nil f (args.map .p) [] _ (e ▸ hp) F noG w vs (slh_base hsub hglob) (by simp [hlen]) (fun i d v hd hv => ?_) _ ?_
 ·simp only [List.getElem?_map, Option.map_eq_some_iff] at hd
  obtain ⟨p, hp, rfl⟩ := hd
  exact hrel i p v hp hv
 ·intro d H' v F' γ' w' hK k1 k2 _ _
  unfold endL at hK
  split at hK
  ·rename_i d' h1
   exact ⟨v, F', rfl, k1.sub, k1.ext, grew_of_base k1, leT_rel hK (ren_relV (fun i k h => by cases h) h1 k2)⟩
  ·exact Stuck.elim hK
end Go.Eng
namespace Go.Proofs.YtekhlnihpfkkkaaGreatDoor
open Go.Eng Go.RowKit Go.Maps Go.Sort Go.Shelf
open Go.WideElems (rd rg rd_mk)
abbrev RN : Value → Option (DataW Unit × List MemPlace) := fun _ => some (.nil, [])
def KeysP (ks : List Int) (F : List Int → Option PV) : Prop := ks.Pairwise (· < ·) ∧ (∀ k ∈ ks, -9223372036854775808 ≤ k ∧ k < 9223372036854775808) ∧ ks.length ≤ 1048576 ∧ ∀ k, (F [k]).isSome = true ↔ k ∈ ks
def pKeys : CallW := fun _ f args H K => match args with
 | [.fn g [] [.ref i []]] => bif Nat.beq f 40 && Nat.beq g 68 then (match H[i]? with
  | some (.box (.own j)) => match H[j]? with
   | some (.map (.one .i64) F) => ∃ ks : List Int, KeysP ks F ∧ K (.own H.length) (putH H H.length (.arr 3 1 ks.length fun i => vint .i64 (ks.getD i 0)))
   | _ => Stuck f 0 9001
  | _ => Stuck f 0 9002) else Stuck f 0 9003
 | _ => Stuck f 0 9004
theorem entsKeys {es : List MapEntry} {L : Ents} (h : EntsOf (.one .i64) es L) : es.map (·.key) = L.map fun x => encZ (x.1.headD 0) := by
 have := congrArg (List.map (·.1)) h.1
 simpa [List.map_map, Function.comp_def, KD.val] using this
theorem findE_mem {ks : List Int} : ∀ {L : Ents} {s : Nat}, (findE ks L s).isSome = true ↔ ks ∈ L.map (·.1)
 | [], s => by simp [findE]
 | (k, u) :: L, s => by
  simp only [findE, List.map_cons, List.mem_cons]
  by_cases hk : ks = k
  ·simp [hk]
  ·simp only [if_neg hk, hk, false_or]; exact findE_mem
def numV : Value → Int
 | .int _ a => a
 | _ => 0
theorem numE : ∀ l : List Int, l.map (numV ∘ encZ) = l
 | [] => rfl
 | a :: l => by rw [List.map_cons, numE l]; rfl
theorem nodup_of_map {l : List Int} (h : (l.map encZ).Nodup) : l.Nodup := by
 induction l with
 | nil => exact List.nodup_nil
 | cons a l ih =>
  simp only [List.map_cons, List.nodup_cons] at h ⊢
  exact ⟨fun hm => h.1 (List.mem_map_of_mem hm), ih h.2⟩
theorem pKeys_sound (C : Cx) (hP : C.P = Tryz.prog) : SoundC C pKeys := by
 intro f args H K h F γ w vs hS hlen hrel R hR
 unfold pKeys at h
 split at h
 ·rename_i g i
  cases hb : (Nat.beq f 40 && Nat.beq g 68) with
  | false => rw [hb] at h; exact h.elim
  | true =>
   rw [hb] at h
   simp only [cond_true] at h
   simp only [Bool.and_eq_true, Nat.beq_eq] at hb
   obtain ⟨rfl, rfl⟩ := hb
   split at h
   ·rename_i j hi
    split at h
    ·rename_i M hj
     obtain ⟨ks, ⟨hks, hrange, hsz, hmem⟩, hK⟩ := h
     match vs, hlen with
     | [v0], _ =>
     have hv := hrel 0 _ v0 rfl rfl
     cases hv with
     | many hm => cases hm
     | one _ hv =>
     cases hv with
     | fn hu hv =>
     cases hu with
     | nil =>
     cases hv with
     | @cons _ _ c1 c2 hv1 hv2 =>
     cases hv2 with
     | nil =>
     cases hv1 with
     | @ref _ _ gi b hgi hbi =>
     have hOi := hS.obj i _ gi hi hgi
     cases hOi with
     | @box _ b' c T hcell hrelc =>
     simp only [blk, Option.some.injEq] at hbi
     subst hbi
     obtain ⟨gj, hcj⟩ : ∃ gj, c.toList = [gj] ∧ γ j = some gj := by
      generalize hcl : c.toList = cl at hrelc
      cases hrelc with
      | own h1 h2 => exact ⟨_, rfl, h1⟩
     have hOj := hS.obj j _ gj hj hcj.2
     cases hOj with
     | @map _ _ b2 es ck L k1 k2 k3 =>
     obtain ⟨hst, k3⟩ := k3
     have hkeys := entsKeys k2
     have hone : ∀ x ∈ L, ∃ k, x.1 = [k] := fun x hx => by
      have := k2.2 x hx
      match hx1 : x.1, this with
      | [k], _ => exact ⟨k, rfl⟩
     have hin : ∀ k : Int, encZ k ∈ es.toList.map (·.key) ↔ k ∈ ks := by
      intro k
      rw [hkeys, ← hmem k]
      constructor
      ·intro hm
       obtain ⟨x, hx, e⟩ := List.mem_map.1 hm
       obtain ⟨k', e'⟩ := hone x hx
       rw [e'] at e
       have ek : k' = k := encZ_inj e
       subst ek
       rcases k3 [k'] rfl with ⟨q1, _⟩ | ⟨_, _, _, _, q2, _⟩
       ·have : (findE [k'] L 0).isSome = true := findE_mem.2 (List.mem_map.2 ⟨x, hx, e'⟩)
        rw [q1] at this; cases this
       ·rw [q2]; rfl
      ·intro hm
       rcases k3 [k] rfl with ⟨_, q2⟩ | ⟨_, _, _, q1, _⟩
       ·rw [q2] at hm; cases hm
       ·have : [k] ∈ L.map (·.1) := findE_mem.1 (by rw [q1]; rfl)
        obtain ⟨x, hx, e⟩ := List.mem_map.1 this
        exact List.mem_map.2 ⟨x, hx, by rw [e]; rfl⟩
     have hint : ∀ x ∈ es.toList, ∃ k, x.key = encZ k ∧ k ∈ ks := fun x hx => by
      have hm : x.key ∈ es.toList.map (·.key) := List.mem_map_of_mem hx
      have hm' := hm
      rw [hkeys] at hm
      obtain ⟨y, hy, e⟩ := List.mem_map.1 hm
      exact ⟨y.1.headD 0, e.symm, (hin _).1 (e ▸ hm')⟩
     -- the numbers of the keys
     let zs : List Int := L.map fun x => x.1.headD 0
     have hzs : es.toList.map (·.key) = zs.map encZ := by rw [hkeys]; simp [zs, List.map_map, Function.comp_def]
     have hnd : zs.Nodup := by
      have := hst.2.2
      rw [hzs] at this
      exact nodup_of_map this
     have hzm : ∀ k, k ∈ zs ↔ k ∈ ks := fun k => by
      rw [← hin k, hzs]
      exact ⟨fun h => List.mem_map_of_mem h, fun h => by obtain ⟨z, hz, e⟩ := List.mem_map.1 h; exact encZ_inj e ▸ hz⟩
     have hksnd : ks.Nodup := hks.imp (fun {a b} h => by intro e; subst e; exact Int.lt_irrefl _ h)
     have hperm : zs.Perm ks := (List.perm_ext_iff_of_nodup hnd hksnd).2 hzm
     have hessz : es.size = ks.length := by
      have := congrArg List.length hzs
      simp only [List.length_map, Array.length_toList] at this
      rw [this, hperm.length_eq]
     have hrd : ∀ x ∈ es.toList, rd Tryz.prog 3 RN x = some (.int .i64 (numV x.key), .nil) := fun x hx => by
      obtain ⟨k, e, hk⟩ := hint x hx
      have hw : (Lit.int .i64 k).wf = true := by
       have := hrange k hk
       simp only [Lit.wf, Bool.and_eq_true, decide_eq_true_eq]
       exact ⟨this.1, by have := this.2; show k ≤ 9223372036854775807; omega⟩
      have hko : keyOf Tryz.prog 3 x.key = some (.int .i64 k) := by
       rw [e]
       simp [keyOf, Tryz.underlying3, mapKey, hw]
      unfold Go.WideElems.rd
      rw [hko, e]
      rfl
     let D0 : DataW Unit := .map ((es.toList.map (Go.WideElems.rg Tryz.prog 3 RN)).foldr DataW.insert [])
     have hrg : ∀ x ∈ es.toList, Go.intOf (Go.WideElems.rg Tryz.prog 3 RN x).1 = numV x.key := fun x hx => by
      unfold Go.WideElems.rg
      rw [hrd x hx]; rfl
     have hik : (intKeys D0).Perm ks := by
      have h1 : (intKeys D0).Perm ((es.toList.map (Go.WideElems.rg Tryz.prog 3 RN)).map fun p => Go.intOf p.1) := (Go.WideShapes.sorted_perm _).map _
      have h2 : (es.toList.map (Go.WideElems.rg Tryz.prog 3 RN)).map (fun p => Go.intOf p.1) = zs := by
       rw [List.map_map]
       have h3 : es.toList.map ((fun p : Lit × DataW Unit => Go.intOf p.1) ∘ Go.WideElems.rg Tryz.prog 3 RN) = (es.toList.map (·.key)).map numV := by
        rw [List.map_map]
        exact List.map_congr_left fun x hx => by rw [Function.comp_apply, Function.comp_apply]; exact hrg x hx
       rw [h3, hzs, List.map_map]
       exact numE zs
      rw [h2] at h1
      exact h1.trans hperm
     have hsize : Maps.size D0 = ks.length := by
      have := hik.length_eq
      simpa [intKeys, D0, Maps.size] using this
     have hown : w.ownsMap Tryz.prog 3 RN b2 es.size D0 := ⟨es, ck, k1, ⟨by rw [hessz]; exact Nat.le_trans hsz (by decide), hst, fun x hx => ⟨_, hrd x hx⟩⟩, Nat.le_refl _, rfl⟩
     have hblt : b' < w.heap.size := (Array.getElem?_eq_some_iff.1 hcell).1
     have hcl : w.cell? ⟨b', 0, none⟩ = some (.map (some b2)) := by
      have : c[0]? = some (.map (some b2)) := by rw [← Array.getElem?_toList, hcj.1]; rfl
      simp [World.cell?, hcell, this]
     have hseq := AnyZI.keys_gives (P := Tryz.prog) (ρ := layK_ren) { layK with } Fence.wide 2 trivial rfl (by omega) b' b2 es.size D0 w hblt hcl hown
     have cS := AnyZI.sorted_in layS Fence.wide 5 trivial trivial trivial trivial rfl (by omega) (sortsK _) (enters_of Tryz.func34 (by kernel_rfl) rfl) 68 #[.pointer (some ⟨b', 0, none⟩)] trivial (enters_of Tryz.func68 (by kernel_rfl) rfl) _ _ (by rw [hsize]; exact Nat.le_trans hsz (by decide)) (by rw [hsize]; omega) w hseq
     change CallsIn _ _ Tryz.prog 40 _ _ _ at cS
     have cS := callsIn_wide.1 cS
     rw [hP]
     refine cS.mono ?_
     rintro e w' ⟨v, ss, rfl, hss, hrow, _, hbel⟩
     have hsorted : ss.mergeSort (fun x y => decide (x ≤ y)) = ks := by
      have p1 : (ss.mergeSort (fun x y => decide (x ≤ y))).Perm ks := (List.mergeSort_perm _ _).trans (hss.trans hik)
      have s1 : (ss.mergeSort (fun x y => decide (x ≤ y))).Pairwise (· ≤ ·) := (List.pairwise_mergeSort (le := fun x y : Int => decide (x ≤ y)) (by intro a b c h1 h2; simp only [decide_eq_true_eq] at *; omega) (by intro a b; simp only [Bool.or_eq_true, decide_eq_true_eq]; omega) ss).imp fun h => by simpa using h
      have s2 : ks.Pairwise (· ≤ ·) := hks.imp fun h => Int.le_of_lt h
      exact List.Perm.eq_of_pairwise (fun a b _ _ h1 h2 => Int.le_antisymm h1 h2) s1 s2 p1
     have hl : ss.length = ks.length := (hss.trans hik).length_eq
     rw [hsorted, hl] at hrow
     have hO : RelO F (updG γ H.length v) w' (.arr 3 1 ks.length fun i => vint .i64 (ks.getD i 0)) v := by
      rcases hrow.2 with ⟨rfl, h0⟩ | ⟨gb, cap, cur, rfl, q1, q2, q3, q4, q5, q6⟩
      ·rw [h0]; exact .arr0
      ·refine .arr q2 q3 q4 q5 fun i hi => ?_
       have hd : (cur.toList.drop (i * 1)).take 1 = [encZ (ks.getD i 0)] := by
        have hlen2 : i < (ks.map encZ).length := by simpa using hi
        rw [Nat.mul_one] at q6 ⊢
        have e2 : cur.toList[i]? = some (encZ (ks.getD i 0)) := by
         have : (cur.toList.take ks.length)[i]? = (ks.map encZ)[i]? := by rw [q6]
         rw [List.getElem?_take, if_pos hi, List.getElem?_map, List.getElem?_eq_getElem hi] at this
         rw [this]
         simp [List.getD_eq_getElem?_getD, List.getElem?_eq_getElem hi]
        obtain ⟨hi2, e3⟩ := List.getElem?_eq_some_iff.1 e2
        rw [List.drop_eq_getElem_cons hi2, List.take_succ_cons, List.take_zero, e3]
       rw [hd]
       exact .p (.v rfl)
     have hG : Grew w w' := ⟨hbel.os, hbel.tape, hbel.output, hbel.size, hbel.block⟩
     have hfree : isFree H H.length = true := by unfold isFree; rw [List.getElem?_eq_none (Nat.le_refl _)]
     have hpush := hS.push (o := .arr 3 1 ks.length fun i => vint .i64 (ks.getD i 0)) (g := v) hfree (fun e => by cases e) hG (fun q hq => by
      rcases hrow.2 with ⟨rfl, _⟩ | ⟨gb, cap, cur, rfl, q1, q2, _⟩
      ·cases hq
      ·simp only [blk, Option.some.injEq] at hq
       subst hq
       exact ⟨q1, (Array.getElem?_eq_some_iff.1 q2).1⟩) hO
     exact hR _ _ _ F _ w' hK hpush (.one rfl (.own upd_self (by
      rcases hrow.2 with ⟨rfl, _⟩ | ⟨gb, cap, cur, rfl, _⟩ <;> rfl))) (fun _ _ h => h) (upd_old (isFree_none hS hfree))
    ·exact h.elim
   ·exact h.elim
 ·exact h.elim
end Go.Proofs.YtekhlnihpfkkkaaGreatDoor
