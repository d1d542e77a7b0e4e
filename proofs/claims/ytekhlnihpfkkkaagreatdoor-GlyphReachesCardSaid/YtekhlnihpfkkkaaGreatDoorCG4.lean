/-
  GlyphReaches: whatever the input, the call returns true, and each argument reads afterwards as it read before; tied to the program's text. (Part 4 of 6 of its proof.)
-/
import Derived.Test.YtekhlnihpfkkkaaGreatDoorCG3
import Derived.Shelf.SlIterI.Nil
import Derived.Shelf.SortM.Plain
import Derived.Shelf.SortM.SortNone
import Derived.Ground.GgzProg
import Derived.Ground.SlgmProg
import Derived.Test.YtekhlnihpfkkkaaGreatDoorProg
import Derived.Shelf.GgClosure.StringsIndexFuncTop
set_option linter.unusedSimpArgs false
set_option linter.unusedVariables false
namespace Go.Proofs.YtekhlnihpfkkkaaGreatDoor
open Go.Eng
def sbT (L : List Int) (s : Int) : Int := 1 + v1 L s 8
def sbN (L : List Int) (s : Int) : Nat := (1 + v1 L (n1 L s) 4 / 2 + v1 L (n2 L s) 4 / 3).toNat
def sbF1 (L : List Int) (s : Int) (j : Nat) : Int := 1 + v1 L (tk L (n3 L s) j) 8
def sbF (L : List Int) (s : Int) : List Int := (List.range (sbN L s)).map (sbF1 L s)
def sbB (L : List Int) (s : Int) : Int := tk L (n3 L s) (sbN L s)
def opt1 (L : List Int) (b : Int) : List Int := if v1 L b 3 = 1 then [1 + v1 L (n1 L b) 8] else []
def optK (L : List Int) (b : Int) : Int := if v1 L b 3 = 1 then n2 L b else n1 L b
def sbM (L : List Int) (s : Int) : Sb := ⟨opt1 L (sbB L s), sbF L s, opt1 L (optK L (sbB L s)), sbT L s⟩
def sbK (L : List Int) (s : Int) : Int := optK L (optK L (sbB L s))
def sbI (L : List Int) (s : Int) : Nat → Int
 | 0 => s
 | i + 1 => sbK L (sbI L s i)
def lkN (L : List Int) (s : Int) : Nat := (v1 L s 4).toNat
def lkM (L : List Int) (s : Int) : List Sb := (List.range (lkN L s)).map fun i => sbM L (sbI L (n1 L s) i)
def lkI (L : List Int) (s : Int) : Nat → Int
 | 0 => s
 | i + 1 => sbI L (n1 L (lkI L s i)) (lkN L (lkI L s i))
def lksN (L : List Int) (k : Int) : Nat := (v1 L k 3).toNat
def lksM (L : List Int) (k : Int) : List (List Sb) := (List.range (lksN L k)).map fun i => lkM L (lkI L (n1 L k) i)
def lksK (L : List Int) (k : Int) : Int := lkI L (n1 L k) (lksN L k)
def knN (L : List Int) (k : Int) : Nat := (v1 L k 4).toNat
def knI (L : List Int) (k : Int) : Nat → Int × Int
 | 0 => (-1, n1 L k)
 | i + 1 => ((knI L k i).1 + 1 + v1 L (knI L k i).2 20, n2 L (knI L k i).2)
def knM1 (L : List Int) (k : Int) (i : Nat) : Tn := (1 + (knI L k (i + 1)).1 / 8, 1 + (knI L k (i + 1)).1 % 8, 4 * (v1 L (n1 L (knI L k i).2) 9 - 5))
def knM (L : List Int) (k : Int) : List Tn := (List.range (knN L k)).map (knM1 L k)
def tabK (L : List Int) (k : Int) : Int := (knI L (lksK L k) (knN L (lksK L k))).2
def pnil : PV := .v (.slice none 0 0)
def eFn0 (f : Ft) : PV := .agg [.s f.name, eI f.ver, eL eAx 4 ax0 f.axes, eL eGl 7 gl0 f.gls, eMs f.chars, pnil, pnil]
def bxF (f : Ft) (a b : D) : O := .box (.agg [.p (.s f.name), .p (eI f.ver), .p (eL eAx 4 ax0 f.axes), .p (eL eGl 7 gl0 f.gls), .p (eMs f.chars), a, b])
def lTab (f : Ft) (L : List Int) (k0 : Int) : Nat → Env → List O → Option LH := fun r E H =>
 bif Nat.beq r 3 then some (mkLA E H [0, 3, 4, 5] [0, 1, 3] (fun z : Nat => [(6, none, vint .i64 z)]) (fun z => [(0, bxD L (lkI L (n1 L k0) z)), (1, bxF f (.own 3) (.p pnil))]) (fun z => [.arr 126 1 z fun j => .p (eLk (lkM L (lkI L (n1 L k0) j)))]) (fun z => z ≤ lksN L k0) (fun z => lksN L k0 - z))
 else bif Nat.beq r 25 then some (mkLA E H [0, 3, 4, 14] [0, 1, 4] (fun z : Nat => [(15, none, vint .i64 z), (13, none, vint .i64 (knI L (lksK L k0) z).1)]) (fun z => [(0, bxD L (knI L (lksK L k0) z).2), (1, bxF f (.own 3) (.own 4))]) (fun z => [.arr 130 3 z fun j => .p (eT (knM1 L (lksK L k0) j))]) (fun z => z ≤ knN L (lksK L k0)) (fun z => knN L (lksK L k0) - z))
 else wK E 6 none fun z =>
  bif Nat.beq r 8 then some (mkLA E H [0, 3, 4, 5, 6, 7, 8] [0, 4, 5] (fun y : Nat => [(9, none, vint .i64 y)]) (fun y => [(0, bxD L (sbI L (n1 L (lkI L (n1 L k0) z)) y)), (4, .box (.agg [.own 5]))]) (fun y => [.arr 128 4 y fun j => .p (eSb (sbM L (sbI L (n1 L (lkI L (n1 L k0) z)) j)))]) (fun y => y ≤ lkN L (lkI L (n1 L k0) z)) (fun y => lkN L (lkI L (n1 L k0) z) - y))
  else wK E 9 none fun y => some (mkLA E H [0, 3, 4, 5, 6, 7, 8, 9, 10, 11] [0, 6, 7] (fun x : Nat => [(12, none, vint .i64 x)]) (fun x => [(0, bxD L (tk L (n3 L (sbI L (n1 L (lkI L (n1 L k0) z)) y)) x)), (6, .box (.agg [.p pnil, .own 7, .p pnil, .p (eI (sbT L (sbI L (n1 L (lkI L (n1 L k0) z)) y)))]))]) (fun x => [.arr 3 1 x fun j => vint .i64 (sbF1 L (sbI L (n1 L (lkI L (n1 L k0) z)) y) j)]) (fun x => x ≤ sbN L (sbI L (n1 L (lkI L (n1 L k0) z)) y)) (fun x => sbN L (sbI L (n1 L (lkI L (n1 L k0) z)) y) - x))
def reTab (L : List Int) (k0 : Int) : Env → Nat → RH → RH := fun E r R =>
 bif Nat.beq r 27 then wR E 15 R (fun z => { R with hs := [(4, vint .i64 (knI L (lksK L k0) (z + 1)).1)] })
 else bif Nat.beq r 28 then wR E 15 R (fun z => { R with hs := [(4, vint .i64 (knM1 L (lksK L k0) z).1), (7, vint .i64 (knM1 L (lksK L k0) z).2.1), (11, vint .i64 (knM1 L (lksK L k0) z).2.2)] })
 else bif Nat.beq r 29 then { R with frz := [3, 3] }
 else wR E 6 R fun z =>
  bif Nat.beq r 21 then { R with frz := [7], zb := [(4, eLk (lkM L (lkI L (n1 L k0) z)))] }
  else wR E 9 R fun y =>
   bif Nat.beq r 10 then { R with hs := [(2, vint .i64 (sbT L (sbI L (n1 L (lkI L (n1 L k0) z)) y)))] }
   else bif Nat.beq r 11 then { R with hs := [(7, vint .i64 (sbN L (sbI L (n1 L (lkI L (n1 L k0) z)) y)))] }
   else bif Nat.beq r 20 then { R with frz := [10, 10, 10], zb := [(6, eSb (sbM L (sbI L (n1 L (lkI L (n1 L k0) z)) y)))] }
   else wR E 12 R fun x => bif Nat.beq r 15 then { R with hs := [(4, vint .i64 (sbF1 L (sbI L (n1 L (lkI L (n1 L k0) z)) y) x))] } else R
def hTab (f : Ft) (L : List Int) (k0 : Int) : FuncId → FH := fun _ => { sp := List.range 120, pm := pmN, re := reTab L k0, reg := fun r => { sh := none, g := 2, za := bif Nat.beq r 17 || Nat.beq r 19 then [8, 9, 10, 11] else [] }, lp := lTab f L k0 }
theorem v1b (L : List Int) (s n : Int) (h : 0 < n) : 0 ≤ v1 L s n ∧ v1 L s n < n := nxV_lt h
theorem opb {L : List Int} {s : Int} (h : 0 ≤ s ∧ s ≤ L.length) : 0 ≤ optK L s ∧ optK L s ≤ L.length := by
 unfold optK; split
 ·exact nxb (nxb h)
 ·exact nxb h
theorem sbb {L : List Int} {s : Int} (h : 0 ≤ s ∧ s ≤ L.length) : 0 ≤ sbB L s ∧ sbB L s ≤ L.length := tkb (nxb (nxb (nxb h))) _
theorem sbIb {L : List Int} {s : Int} (h : 0 ≤ s ∧ s ≤ L.length) : ∀ i, 0 ≤ sbI L s i ∧ sbI L s i ≤ L.length
 | 0 => h
 | i + 1 => opb (opb (sbb (sbIb h i)))
theorem lkIb {L : List Int} {s : Int} (h : 0 ≤ s ∧ s ≤ L.length) : ∀ i, 0 ≤ lkI L s i ∧ lkI L s i ≤ L.length
 | 0 => h
 | i + 1 => sbIb (nxb (lkIb h i)) _
theorem knIb {L : List Int} {s : Int} (h : 0 ≤ s ∧ s ≤ L.length) : ∀ i, 0 ≤ (knI L s i).2 ∧ (knI L s i).2 ≤ L.length
 | 0 => nxb h
 | i + 1 => nxb (nxb (knIb h i))
theorem knI1 (L : List Int) (s : Int) : ∀ i, -1 ≤ (knI L s i).1 ∧ (knI L s i).1 ≤ -1 + 20 * (i : Int)
 | 0 => ⟨by show (-1 : Int) ≤ -1; omega, by show (-1 : Int) ≤ _; omega⟩
 | i + 1 => by
  have h1 := knI1 L s i
  have h2 := v1b L (knI L s i).2 20 (by omega)
  show -1 ≤ (knI L s i).1 + 1 + v1 L (knI L s i).2 20 ∧ (knI L s i).1 + 1 + v1 L (knI L s i).2 20 ≤ -1 + 20 * ((i + 1 : Nat) : Int)
  omega
theorem len_rm {α : Type} (f : Nat → α) (n : Nat) : ((List.range n).map f).length = n := by simp
set_option maxRecDepth 100000 in
theorem tab_ok (f : Ft) (L : List Int) (k : Int) (hk : 0 ≤ k ∧ k ≤ L.length) (hL : L.length < 2 ^ 40) : Mut Tryz.prog 25 (eDr L k) [eFn0 f] (eDr L (tabK L k)) (.p (eFn { f with lks := lksM L k, kerns := knM L (lksK L k) })) := by
 let K : KV := endM (eDr L (tabK L k)) (.p (eFn { f with lks := lksM L k, kerns := knM L (lksK L k) }))
 refine mut_by 20 (hTab f L k) (p :=
  let a0_41 : List Nat := [7]; let a0_40 : List Nat := [9]; let a0_39 : D := D.agg [D.own 5]; let a0_38 : List PV := [PV.v (Value.int IntKind.i64 (4 : Int))]; let a0_37 : D := D.p (eL eAx 4 ax0 f.axes); let a0_36 : O := O.box a0_39; let a0_35 : D := D.p (eL eGl 7 gl0 f.gls); let a0_34 : List PV := [PV.v (Value.int IntKind.i64 (3 : Int))]; let a0_33 : List PV := [PV.v (Value.int IntKind.i64 (8 : Int))]; let a0_32 : PV := PV.v (Value.slice none 0 0); let a0_31 : D := D.p a0_32; let a0_30 : PV := PV.lst 7 f.gls.length fun (i : Nat) => eGl (f.gls.getD i gl0); let a0_29 : PV := PV.lst 4 f.axes.length fun (i : Nat) => eAx (f.axes.getD i ax0); let a0_28 : List D := [D.own 3, D.own 4]; let a0_27 : D := D.p a0_29; let a0_26 : D := D.p a0_30; let a0_25 : Int := nxV L.length k (L.getD k.toNat (0 : Int)) (3 : Int); let a0_24 : PV := PV.lst 1 L.length fun (i : Nat) => eI (L.getD i (0 : Int)); let a0_23 : Nat × Option Bool × D := (3, none, D.ref 1 []); let a0_22 : Nat × Option Bool × D := (7, none, D.ref 4 []); let a0_21 : Nat × Option Bool × D := (0, none, D.ref 0 []); let a0_20 : Nat × Option Bool × D := (4, none, D.ref 2 []); let a0_19 : Nat × Option Bool × D := (10, none, D.ref 6 []); let a0_18 : PV := PV.lst 2 f.chars.length fun (i : Nat) => eR (f.chars.getD i ((0 : Int), (0 : Int))); let a0_17 : D := D.p a0_18; let a0_16 : Nat × Option Bool × D := (5, none, D.p (PV.v (Value.int IntKind.i64 a0_25))); let a0_15 : List (Nat × Nat) := numbered [0, 1, 2, 3, 6] 0; let a0_14 : List (Nat × Nat) := numbered [0, 1, 2, 3, 4] 0; let a0_13 : List (Nat × Nat) := numbered [0, 1, 2, 3, 4, 13] 0; let a0_12 : List (Nat × Nat) := numbered [0, 1, 2, 3, 4, 11] 0; let a0_11 : List (Nat × Nat) := numbered [0, 1, 2, 3, 4, 5] 0; let a0_10 : List (Nat × Nat) := numbered (0 :: 1 :: 2 :: 3 :: 4 :: a0_40) 0; let a0_9 : D := D.agg [D.p (PV.s f.name), D.p (eI f.ver), a0_37, a0_35, D.p (eMs f.chars), D.own 3, D.p pnil]; let a0_8 : O := O.box a0_9; let a0_7 : List (Nat × Nat) := numbered (0 :: 1 :: 2 :: 3 :: 4 :: 5 :: 6 :: a0_40) 0; let a0_6 : List (Nat × Nat) := numbered (0 :: 1 :: 2 :: 3 :: 4 :: 5 :: 6 :: a0_41) 0; let a0_5 : D := D.agg (D.p (PV.s f.name) :: D.p (eI f.ver) :: a0_37 :: a0_35 :: D.p (eMs f.chars) :: a0_28); let a0_4 : O := O.box (D.p (PV.agg [PV.s [], PV.v (Value.int IntKind.i64 (0 : Int)), a0_32, a0_32, a0_32, a0_32, a0_32])); let a0_3 : List O := [a0_4]; let a0_2 : D := D.agg [D.p (PV.s f.name), D.p (PV.v (Value.int IntKind.i64 f.ver)), a0_27, a0_26, a0_17, D.own 3, a0_31]; let a0_1 : List (Nat × Option Bool × D) := [a0_21, a0_23, a0_20, a0_16]; let a0_0 : Prop := a0_1 = a0_1 ∧ a0_3 = a0_3; Mut Tryz.prog 20 (eDr L k) a0_34 (PV.agg [a0_24, eI (nxK L.length k)]) (vint IntKind.i64 a0_25) ∧ (∃ (x : Nat), x ≤ lksN L k ∧ (∀ (i : Nat), let a2_0 : D := D.p (eLk (lkM L (lkI L (n1 L k) i))); i < 0 → D.ren (numbered [0, 1, 2, 3] 0) a2_0 = some a2_0) ∧ Int.ofNat 0 = (↑x : Int) ∧ D.p (PV.agg [a0_24, PV.v (Value.int IntKind.i64 (nxK L.length k))]) = D.p (eDr L (lkI L (n1 L k) x)) ∧ a0_2 = a0_9 ∧ (0 = x ∧ ∀ (j : Nat), let a2_0 : D := D.p (eLk (lkM L (lkI L (n1 L k) j))); j < 0 → a2_0 = a2_0) ∧ a0_0) ∧ ∀ (z : Nat), let a1_24 : PV := eDr L (lkI L (n1 L k) z); let a1_23 : Int := nxK L.length (lkI L (n1 L k) z); let a1_22 : Int := lkI L (n1 L k) (↑z : Int).toNat; let a1_21 : List Sb := lkM L a1_22; let a1_20 : Int := n1 L a1_22; let a1_19 : Nat := lkN L a1_22; let a1_18 : Nat := z + 1; let a1_17 : Nat := a1_21.length; let a1_16 : PV := PV.agg [a0_24, eI a1_23]; let a1_15 : PV := PV.lst 1 z fun (j : Nat) => (D.p (eLk (lkM L (lkI L (n1 L k) j)))).unP; let a1_14 : D := D.p (PV.agg [a0_24, PV.v (Value.int IntKind.i64 a1_23)]); let a1_13 : O := O.arr 126 1 z fun (j : Nat) => D.p (eLk (lkM L (lkI L (n1 L k) j))); let a1_12 : Nat × Option Bool × D := (6, none, vint IntKind.i64 (↑z : Int)); let a1_11 : Nat × Option Bool × D := (6, none, D.p (PV.v (Value.int IntKind.i64 (↑z : Int)))); let a1_10 : Int := nxV L.length (lkI L (n1 L k) z) (L.getD (lkI L (n1 L k) z).toNat (0 : Int)) (4 : Int); let a1_9 : List O := [a0_4, a1_13]; let a1_8 : D := vint IntKind.i64 a1_10; let a1_7 : List O := a0_8 :: a1_9; let a1_6 : Option Bool × D := (none, D.p (PV.v (Value.int IntKind.i64 a1_10))); let a1_5 : Nat × Option Bool × D := (8, a1_6); let a1_4 : List D := List.map (fun (x : Nat × D) => x.snd) [(0, D.p (PV.agg [PV.lst 4 a1_17 fun (i : Nat) => eSb (a1_21.getD i sb0)]))]; let a1_3 : List (Nat × Option Bool × D) := [a0_22, a1_5]; let a1_2 : List (Nat × Option Bool × D) := [a0_21, a0_23, a0_20, (14, a1_6)]; let a1_1 : Prop := a1_2 = a1_2 ∧ a1_9 = a1_9; let a1_0 : Prop := a0_21 :: a0_23 :: a0_20 :: a0_16 :: a1_11 :: a1_3 = a0_21 :: a0_23 :: a0_20 :: a0_16 :: a1_12 :: a1_3 ∧ a1_7 = a1_7; z ≤ lksN L k → (decide ((↑z : Int) < a0_25) = true → Mut Tryz.prog 20 a1_24 a0_38 a1_16 a1_8 ∧ (∃ (x : Nat), x ≤ a1_19 ∧ (∀ (i : Nat), let a3_0 : D := D.p (eLk (lkM L (lkI L (n1 L k) i))); i < z → D.ren a0_11 a3_0 = some a3_0) ∧ (∀ (i : Nat), let a3_0 : D := D.p (eSb (sbM L (sbI L a1_20 i))); i < 0 → D.ren a0_11 a3_0 = some a3_0) ∧ Int.ofNat 0 = (↑x : Int) ∧ a1_14 = D.p (eDr L (sbI L a1_20 x)) ∧ a0_39 = a0_39 ∧ (0 = x ∧ ∀ (j : Nat), let a3_0 : D := D.p (eSb (sbM L (sbI L a1_20 j))); j < 0 → a3_0 = a3_0) ∧ a1_0) ∧ ∀ (z_1 : Nat), let a2_31 : Int := sbI L a1_20 (↑z_1 : Int).toNat; let a2_30 : Int := nxK L.length (sbI L a1_20 z_1); let a2_29 : Nat := a1_19 - z_1; let a2_28 : Int := sbT L a2_31; let a2_27 : Int := n3 L a2_31; let a2_26 : Nat := sbN L a2_31; let a2_25 : List Int := (sbM L a2_31).frm; let a2_24 : Int := (sbM L a2_31).to; let a2_23 : List Int := (sbM L a2_31).before; let a2_22 : List Int := (sbM L a2_31).after; let a2_21 : PV := eI a2_24; let a2_20 : Int := nxK L.length a2_30; let a2_19 : Nat := a2_23.length; let a2_18 : Nat := z_1 + 1; let a2_17 : Int := (↑a2_26 : Int); let a2_16 : Nat := a2_22.length; let a2_15 : PV := PV.v (Value.int IntKind.i64 a2_28); let a2_14 : Nat := a2_25.length; let a2_13 : Int := nxK L.length a2_20; let a2_12 : Int := IntKind.i64.wrap ((↑z_1 : Int) + (1 : Int)); let a2_11 : Nat := a2_18 * 80; let a2_10 : Int := nxV L.length (sbI L a1_20 z_1) (L.getD (sbI L a1_20 z_1).toNat (0 : Int)) (8 : Int); let a2_9 : D := D.agg [a0_31, D.own 7, a0_31, D.p a2_15]; let a2_8 : D := D.agg [D.p pnil, D.own 7, D.p pnil, D.p (eI a2_28)]; let a2_7 : Int := nxV L.length a2_30 (L.getD a2_30.toNat (0 : Int)) (4 : Int); let a2_6 : List O := [a0_8, a0_4, a1_13, a0_36, O.arr 128 4 z_1 fun (j : Nat) => D.p (eSb (sbM L (sbI L a1_20 j)))]; let a2_5 : Int := nxV L.length a2_20 (L.getD a2_20.toNat (0 : Int)) (4 : Int); let a2_4 : List (Nat × Option Bool × D) := [a0_19, (11, none, D.p (PV.v (Value.int IntKind.i64 a2_17)))]; let a2_3 : List D := List.map (fun (x : Nat × D) => x.snd) [(0, D.p (PV.agg [PV.lst 1 a2_19 fun (i : Nat) => eI (a2_23.getD i (0 : Int)), PV.lst 1 a2_14 fun (i : Nat) => eI (a2_25.getD i (0 : Int)), PV.lst 1 a2_16 fun (i : Nat) => eI (a2_22.getD i (0 : Int)), PV.v (Value.int IntKind.i64 a2_24)]))]; let a2_2 : Prop := ∀ (j : Nat), j < a2_18 → appF (fun (j : Nat) => D.p (eSb (sbM L (sbI L a1_20 j)))) z_1 (fun (j : Nat) => a2_3.getD j default) j = D.p (eSb (sbM L (sbI L a1_20 j))); let a2_1 : Prop := a0_21 :: a0_23 :: a0_20 :: a0_16 :: a1_11 :: a0_22 :: a1_5 :: (9, none, D.p (PV.v (Value.int IntKind.i64 (↑z_1 : Int)))) :: a2_4 = a0_21 :: a0_23 :: a0_20 :: a0_16 :: a1_12 :: a0_22 :: a1_5 :: (9, none, vint IntKind.i64 (↑z_1 : Int)) :: a2_4 ∧ a2_6 = a2_6; let a2_0 : Prop := ∀ (i : Nat), let a3_0 : D := appF (fun (j : Nat) => D.p (eSb (sbM L (sbI L a1_20 j)))) z_1 (fun (j : Nat) => a2_3.getD j default) i; i < a2_18 → D.ren a0_12 a3_0 = some a3_0; z_1 ≤ a1_19 → (decide ((↑z_1 : Int) < a1_10) = true → Mut Tryz.prog 20 (eDr L (sbI L a1_20 z_1)) a0_33 (PV.agg [a0_24, eI a2_30]) (vint IntKind.i64 a2_10) ∧ IntKind.i64.wrap ((1 : Int) + a2_10) = a2_28 ∧ Mut Tryz.prog 20 (PV.agg [a0_24, PV.v (Value.int IntKind.i64 a2_30)]) a0_38 (PV.agg [a0_24, eI a2_20]) (vint IntKind.i64 a2_7) ∧ ((2 : Int) = (0 : Int) → False) ∧ Mut Tryz.prog 20 (PV.agg [a0_24, PV.v (Value.int IntKind.i64 a2_20)]) a0_38 (PV.agg [a0_24, eI a2_13]) (vint IntKind.i64 a2_5) ∧ ((3 : Int) = (0 : Int) → False) ∧ IntKind.i64.wrap (IntKind.i64.wrap ((1 : Int) + IntKind.i64.wrap (a2_7.tdiv (2 : Int))) + IntKind.i64.wrap (a2_5.tdiv (3 : Int))) = a2_17 ∧ (∃ (x : Nat), x ≤ a2_26 ∧ (∀ (i : Nat), let a4_0 : D := D.p (eLk (lkM L (lkI L (n1 L k) i))); i < z → D.ren a0_6 a4_0 = some a4_0) ∧ (∀ (i : Nat), let a4_0 : D := D.p (eSb (sbM L (sbI L a1_20 i))); i < z_1 → D.ren a0_6 a4_0 = some a4_0) ∧ (∀ (i : Nat), i < 0 → D.ren a0_6 (vint IntKind.i64 (sbF1 L a2_31 i)) = some (vint IntKind.i64 (sbF1 L a2_31 i))) ∧ Int.ofNat 0 = (↑x : Int) ∧ D.p (PV.agg [a0_24, PV.v (Value.int IntKind.i64 a2_13)]) = D.p (eDr L (tk L a2_27 x)) ∧ a2_9 = a2_8 ∧ (0 = x ∧ ∀ (j : Nat), j < 0 → vint IntKind.i64 (sbF1 L a2_31 j) = vint IntKind.i64 (sbF1 L a2_31 j)) ∧ a2_1) ∧ ∀ (z_2 : Nat), let a3_26 : Int := nxK L.length (tk L a2_27 z_2); let a3_25 : Int := sbF1 L a2_31 (↑z_2 : Int).toNat; let a3_24 : Int := nxK L.length a3_26; let a3_23 : Int := L.getD (tk L a2_27 z_2).toNat (0 : Int); let a3_22 : Nat := z_2 + 1; let a3_21 : Int := nxK L.length a3_24; let a3_20 : PV := PV.agg [a0_24, eI a3_26]; let a3_19 : Int := L.getD a3_26.toNat (0 : Int); let a3_18 : PV := PV.agg [a0_24, PV.v (Value.int IntKind.i64 a3_26)]; let a3_17 : Int := nxK L.length a3_21; let a3_16 : Int := L.getD a3_24.toNat (0 : Int); let a3_15 : PV := PV.agg [a0_24, eI a3_24]; let a3_14 : PV := PV.agg [a0_24, PV.v (Value.int IntKind.i64 a3_24)]; let a3_13 : PV := PV.agg [a0_24, eI a3_21]; let a3_12 : Int := nxV L.length (tk L a2_27 z_2) a3_23 (3 : Int); let a3_11 : Int := nxV L.length (tk L a2_27 z_2) a3_23 (8 : Int); let a3_10 : PV := PV.agg [a0_24, PV.v (Value.int IntKind.i64 a3_21)]; let a3_9 : D := D.p a3_10; let a3_8 : Int := nxV L.length a3_26 a3_19 (3 : Int); let a3_7 : Int := nxV L.length a3_26 a3_19 (8 : Int); let a3_6 : List D := List.map (fun (x : Nat × D) => x.snd) [(0, D.p (PV.v (Value.int IntKind.i64 a3_25)))]; let a3_5 : Int := nxV L.length a3_24 a3_16 (8 : Int); let a3_4 : Int := nxV L.length a3_24 a3_16 (3 : Int); let a3_3 : Int := nxV L.length a3_21 (L.getD a3_21.toNat (0 : Int)) (8 : Int); let a3_2 : List D := [D.p (PV.v (Value.int IntKind.i64 (IntKind.i64.wrap ((1 : Int) + a3_7))))]; let a3_1 : List D := [D.p (PV.v (Value.int IntKind.i64 (IntKind.i64.wrap ((1 : Int) + a3_5))))]; let a3_0 : List D := [D.p (PV.v (Value.int IntKind.i64 (IntKind.i64.wrap ((1 : Int) + a3_3))))]; z_2 ≤ a2_26 → (decide ((↑z_2 : Int) < a2_17) = true → Mut Tryz.prog 20 (eDr L (tk L a2_27 z_2)) a0_33 a3_20 (vint IntKind.i64 a3_11) ∧ IntKind.i64.wrap ((1 : Int) + a3_11) = a3_25 ∧ a3_22 * 8 ≤ 140737488355328 ∧ ∃ (y : Nat), y ≤ a2_26 ∧ a2_26 - y < a2_26 - z_2 ∧ (∀ (i : Nat), let a5_0 : D := D.p (eLk (lkM L (lkI L (n1 L k) i))); i < z → D.ren a0_7 a5_0 = some a5_0) ∧ (∀ (i : Nat), let a5_0 : D := D.p (eSb (sbM L (sbI L a1_20 i))); i < z_1 → D.ren a0_7 a5_0 = some a5_0) ∧ (∀ (i : Nat), let a5_0 : D := appF (fun (j : Nat) => vint IntKind.i64 (sbF1 L a2_31 j)) z_2 (fun (j : Nat) => a3_6.getD j default) i; i < a3_22 → D.ren a0_7 a5_0 = some a5_0) ∧ IntKind.i64.wrap ((↑z_2 : Int) + (1 : Int)) = (↑y : Int) ∧ D.p a3_18 = D.p (eDr L (tk L a2_27 y)) ∧ a2_9 = a2_8 ∧ (a3_22 = y ∧ ∀ (j : Nat), j < a3_22 → appF (fun (j : Nat) => vint IntKind.i64 (sbF1 L a2_31 j)) z_2 (fun (j : Nat) => a3_6.getD j default) j = vint IntKind.i64 (sbF1 L a2_31 j)) ∧ a2_1) ∧ (decide ((↑z_2 : Int) < a2_17) = false → Mut Tryz.prog 20 (eDr L (tk L a2_27 z_2)) a0_34 a3_20 (vint IntKind.i64 a3_12) ∧ ((a3_12 == (1 : Int)) = true → Mut Tryz.prog 20 a3_18 a0_33 a3_15 (vint IntKind.i64 a3_7) ∧ 8 ≤ 140737488355328 ∧ Mut Tryz.prog 20 a3_14 a0_34 a3_13 (vint IntKind.i64 a3_4) ∧ ((a3_4 == (1 : Int)) = true → Mut Tryz.prog 20 a3_10 a0_33 (PV.agg [a0_24, eI a3_17]) (vint IntKind.i64 a3_3) ∧ 8 ≤ 140737488355328 ∧ (∀ (j : Nat), j < 1 → nthD a3_2 j = D.p (nthD a3_2 j).unP) ∧ (∀ (j : Nat), j < z_2 → vint IntKind.i64 (sbF1 L a2_31 j) = D.p (vint IntKind.i64 (sbF1 L a2_31 j)).unP) ∧ (∀ (j : Nat), j < 1 → nthD a3_0 j = D.p (nthD a3_0 j).unP) ∧ ((1 = a2_19 ∧ ∀ (j : Nat), j < 1 → leP (nthD a3_2 j).unP (eI (a2_23.getD j (0 : Int)))) ∧ (z_2 = a2_14 ∧ ∀ (j : Nat), j < z_2 → PV.v (Value.int IntKind.i64 (sbF1 L a2_31 j)) = eI (a2_25.getD j (0 : Int))) ∧ (1 = a2_16 ∧ ∀ (j : Nat), j < 1 → leP (nthD a3_0 j).unP (eI (a2_22.getD j (0 : Int)))) ∧ a2_15 = a2_21 ∧ True) ∧ a2_11 ≤ 140737488355328 ∧ ∃ (y : Nat), y ≤ a1_19 ∧ a1_19 - y < a2_29 ∧ (∀ (i : Nat), let a5_0 : D := D.p (eLk (lkM L (lkI L (n1 L k) i))); i < z → D.ren a0_13 a5_0 = some a5_0) ∧ (∀ (i : Nat), let a5_0 : D := appF (fun (j : Nat) => D.p (eSb (sbM L (sbI L a1_20 j)))) z_1 (fun (j : Nat) => a2_3.getD j default) i; i < a2_18 → D.ren a0_13 a5_0 = some a5_0) ∧ a2_12 = (↑y : Int) ∧ D.p (PV.agg [a0_24, PV.v (Value.int IntKind.i64 a3_17)]) = D.p (eDr L (sbI L a1_20 y)) ∧ a0_39 = a0_39 ∧ (a2_18 = y ∧ a2_2) ∧ a1_0) ∧ ((a3_4 == (1 : Int)) = false → (∀ (j : Nat), j < 1 → nthD a3_2 j = D.p (nthD a3_2 j).unP) ∧ (∀ (j : Nat), j < z_2 → vint IntKind.i64 (sbF1 L a2_31 j) = D.p (vint IntKind.i64 (sbF1 L a2_31 j)).unP) ∧ ((1 = a2_19 ∧ ∀ (j : Nat), j < 1 → leP (nthD a3_2 j).unP (eI (a2_23.getD j (0 : Int)))) ∧ (z_2 = a2_14 ∧ ∀ (j : Nat), j < z_2 → PV.v (Value.int IntKind.i64 (sbF1 L a2_31 j)) = eI (a2_25.getD j (0 : Int))) ∧ a2_16 = 0 ∧ a2_15 = a2_21 ∧ True) ∧ a2_11 ≤ 140737488355328 ∧ ∃ (y : Nat), y ≤ a1_19 ∧ a1_19 - y < a2_29 ∧ (∀ (i : Nat), let a5_0 : D := D.p (eLk (lkM L (lkI L (n1 L k) i))); i < z → D.ren a0_12 a5_0 = some a5_0) ∧ a2_0 ∧ a2_12 = (↑y : Int) ∧ a3_9 = D.p (eDr L (sbI L a1_20 y)) ∧ a0_39 = a0_39 ∧ (a2_18 = y ∧ a2_2) ∧ a1_0)) ∧ ((a3_12 == (1 : Int)) = false → Mut Tryz.prog 20 a3_18 a0_34 a3_15 (vint IntKind.i64 a3_8) ∧ ((a3_8 == (1 : Int)) = true → Mut Tryz.prog 20 a3_14 a0_33 a3_13 (vint IntKind.i64 a3_5) ∧ 8 ≤ 140737488355328 ∧ (∀ (j : Nat), j < z_2 → vint IntKind.i64 (sbF1 L a2_31 j) = D.p (vint IntKind.i64 (sbF1 L a2_31 j)).unP) ∧ (∀ (j : Nat), j < 1 → nthD a3_1 j = D.p (nthD a3_1 j).unP) ∧ (a2_19 = 0 ∧ (z_2 = a2_14 ∧ ∀ (j : Nat), j < z_2 → PV.v (Value.int IntKind.i64 (sbF1 L a2_31 j)) = eI (a2_25.getD j (0 : Int))) ∧ (1 = a2_16 ∧ ∀ (j : Nat), j < 1 → leP (nthD a3_1 j).unP (eI (a2_22.getD j (0 : Int)))) ∧ a2_15 = a2_21 ∧ True) ∧ a2_11 ≤ 140737488355328 ∧ ∃ (y : Nat), y ≤ a1_19 ∧ a1_19 - y < a2_29 ∧ (∀ (i : Nat), let a5_0 : D := D.p (eLk (lkM L (lkI L (n1 L k) i))); i < z → D.ren a0_12 a5_0 = some a5_0) ∧ a2_0 ∧ a2_12 = (↑y : Int) ∧ a3_9 = D.p (eDr L (sbI L a1_20 y)) ∧ a0_39 = a0_39 ∧ (a2_18 = y ∧ a2_2) ∧ a1_0) ∧ ((a3_8 == (1 : Int)) = false → (∀ (j : Nat), j < z_2 → vint IntKind.i64 (sbF1 L a2_31 j) = D.p (vint IntKind.i64 (sbF1 L a2_31 j)).unP) ∧ (a2_19 = 0 ∧ (z_2 = a2_14 ∧ ∀ (j : Nat), j < z_2 → PV.v (Value.int IntKind.i64 (sbF1 L a2_31 j)) = eI (a2_25.getD j (0 : Int))) ∧ a2_16 = 0 ∧ a2_15 = a2_21 ∧ True) ∧ a2_11 ≤ 140737488355328 ∧ ∃ (y : Nat), y ≤ a1_19 ∧ a1_19 - y < a2_29 ∧ (∀ (i : Nat), let a5_0 : D := D.p (eLk (lkM L (lkI L (n1 L k) i))); i < z → D.ren a0_10 a5_0 = some a5_0) ∧ (∀ (i : Nat), let a5_0 : D := appF (fun (j : Nat) => D.p (eSb (sbM L (sbI L a1_20 j)))) z_1 (fun (j : Nat) => a2_3.getD j default) i; i < a2_18 → D.ren a0_10 a5_0 = some a5_0) ∧ a2_12 = (↑y : Int) ∧ D.p a3_14 = D.p (eDr L (sbI L a1_20 y)) ∧ a0_39 = a0_39 ∧ (a2_18 = y ∧ a2_2) ∧ a1_0)))) ∧ (decide ((↑z_1 : Int) < a1_10) = false → (∀ (j : Nat), let a3_0 : D := D.p (eSb (sbM L (sbI L a1_20 j))); j < z_1 → a3_0 = D.p a3_0.unP) ∧ ((z_1 = a1_17 ∧ ∀ (j : Nat), let a3_2 : Nat := (sbM L (sbI L a1_20 j)).after.length; let a3_1 : Nat := (sbM L (sbI L a1_20 j)).frm.length; let a3_0 : Nat := (sbM L (sbI L a1_20 j)).before.length; j < z_1 → (a3_0 = (a1_21.getD j sb0).before.length ∧ ∀ (j_1 : Nat), j_1 < a3_0 → PV.v (Value.int IntKind.i64 ((sbM L (sbI L a1_20 j)).before.getD j_1 (0 : Int))) = eI ((a1_21.getD j sb0).before.getD j_1 (0 : Int))) ∧ (a3_1 = (a1_21.getD j sb0).frm.length ∧ ∀ (j_1 : Nat), j_1 < a3_1 → PV.v (Value.int IntKind.i64 ((sbM L (sbI L a1_20 j)).frm.getD j_1 (0 : Int))) = eI ((a1_21.getD j sb0).frm.getD j_1 (0 : Int))) ∧ (a3_2 = (a1_21.getD j sb0).after.length ∧ ∀ (j_1 : Nat), j_1 < a3_2 → PV.v (Value.int IntKind.i64 ((sbM L (sbI L a1_20 j)).after.getD j_1 (0 : Int))) = eI ((a1_21.getD j sb0).after.getD j_1 (0 : Int))) ∧ PV.v (Value.int IntKind.i64 (sbM L (sbI L a1_20 j)).to) = eI (a1_21.getD j sb0).to ∧ True) ∧ True) ∧ a1_18 * 24 ≤ 140737488355328 ∧ ∃ (y : Nat), y ≤ lksN L k ∧ lksN L k - y < lksN L k - z ∧ (∀ (i : Nat), let a4_0 : D := appF (fun (j : Nat) => D.p (eLk (lkM L (lkI L (n1 L k) j)))) z (fun (j : Nat) => a1_4.getD j default) i; i < a1_18 → D.ren (numbered (0 :: 1 :: 2 :: a0_41) 0) a4_0 = some a4_0) ∧ IntKind.i64.wrap ((↑z : Int) + (1 : Int)) = (↑y : Int) ∧ D.p (eDr L (sbI L a1_20 z_1)) = D.p (eDr L (lkI L (n1 L k) y)) ∧ a0_2 = a0_9 ∧ (a1_18 = y ∧ ∀ (j : Nat), j < a1_18 → appF (fun (j : Nat) => D.p (eLk (lkM L (lkI L (n1 L k) j)))) z (fun (j : Nat) => a1_4.getD j default) j = D.p (eLk (lkM L (lkI L (n1 L k) j)))) ∧ a0_0)) ∧ (decide ((↑z : Int) < a0_25) = false → Mut Tryz.prog 20 a1_24 a0_38 a1_16 a1_8 ∧ (∃ (x : Nat), x ≤ knN L (lksK L k) ∧ (∀ (i : Nat), let a3_0 : D := D.p (eLk (lkM L (lkI L (n1 L k) i))); i < z → D.ren a0_14 a3_0 = some a3_0) ∧ (∀ (i : Nat), let a3_0 : D := D.p (eT (knM1 L (lksK L k) i)); i < 0 → D.ren a0_14 a3_0 = some a3_0) ∧ Int.ofNat 0 = (↑x : Int) ∧ Int.negSucc 0 = (knI L (lksK L k) x).fst ∧ a1_14 = D.p (eDr L (knI L (lksK L k) x).snd) ∧ a0_5 = a0_5 ∧ (0 = x ∧ ∀ (j : Nat), let a3_0 : D := D.p (eT (knM1 L (lksK L k) j)); j < 0 → a3_0 = a3_0) ∧ a1_1) ∧ ∀ (z_1 : Nat), let a2_15 : Int := (knI L (lksK L k) z_1).snd; let a2_14 : Tn := knM1 L (lksK L k) (↑z_1 : Int).toNat; let a2_13 : PV := eDr L a2_15; let a2_12 : Int := nxK L.length a2_15; let a2_11 : Nat := z_1 + 1; let a2_10 : Int × Int := a2_14.snd; let a2_9 : Int := a2_14.fst; let a2_8 : Int := nxK L.length a2_12; let a2_7 : PV := PV.lst 3 z_1 fun (j : Nat) => (D.p (eT (knM1 L (lksK L k) j))).unP; let a2_6 : Int := a2_10.fst; let a2_5 : Int := a2_10.snd; let a2_4 : Int := (knI L (lksK L k) ((↑z_1 : Int).toNat + 1)).fst; let a2_3 : Int := nxV L.length a2_15 (L.getD a2_15.toNat (0 : Int)) (20 : Int); let a2_2 : Int := nxV L.length a2_12 (L.getD a2_12.toNat (0 : Int)) (9 : Int); let a2_1 : D := D.p (PV.agg [PV.s f.name, PV.v (Value.int IntKind.i64 f.ver), a0_29, a0_30, a0_18, a1_15, a2_7]); let a2_0 : List D := List.map (fun (x : Nat × D) => x.snd) [(0, D.p (PV.agg [PV.v (Value.int IntKind.i64 a2_9), PV.v (Value.int IntKind.i64 a2_6), PV.v (Value.int IntKind.i64 a2_5)]))]; z_1 ≤ knN L (lksK L k) → (decide ((↑z_1 : Int) < a1_10) = true → Mut Tryz.prog 20 a2_13 [PV.v (Value.int IntKind.i64 (20 : Int))] (PV.agg [a0_24, eI a2_12]) (vint IntKind.i64 a2_3) ∧ IntKind.i64.wrap (IntKind.i64.wrap ((knI L (lksK L k) z_1).fst + (1 : Int)) + a2_3) = a2_4 ∧ ((8 : Int) = (0 : Int) → False) ∧ IntKind.i64.wrap ((1 : Int) + IntKind.i64.wrap (a2_4.tdiv (8 : Int))) = a2_9 ∧ ((8 : Int) = (0 : Int) → False) ∧ IntKind.i64.wrap ((1 : Int) + a2_4.tmod (8 : Int)) = a2_6 ∧ Mut Tryz.prog 20 (PV.agg [a0_24, PV.v (Value.int IntKind.i64 a2_12)]) [PV.v (Value.int IntKind.i64 (9 : Int))] (PV.agg [a0_24, eI a2_8]) (vint IntKind.i64 a2_2) ∧ IntKind.i64.wrap ((4 : Int) * IntKind.i64.wrap (a2_2 - (5 : Int))) = a2_5 ∧ a2_11 * 24 ≤ 140737488355328 ∧ ∃ (y : Nat), y ≤ knN L (lksK L k) ∧ knN L (lksK L k) - y < knN L (lksK L k) - z_1 ∧ (∀ (i : Nat), let a4_0 : D := D.p (eLk (lkM L (lkI L (n1 L k) i))); i < z → D.ren a0_15 a4_0 = some a4_0) ∧ (∀ (i : Nat), let a4_0 : D := appF (fun (j : Nat) => D.p (eT (knM1 L (lksK L k) j))) z_1 (fun (j : Nat) => a2_0.getD j default) i; i < a2_11 → D.ren a0_15 a4_0 = some a4_0) ∧ IntKind.i64.wrap ((↑z_1 : Int) + (1 : Int)) = (↑y : Int) ∧ a2_4 = (knI L (lksK L k) y).fst ∧ D.p (PV.agg [a0_24, PV.v (Value.int IntKind.i64 a2_8)]) = D.p (eDr L (knI L (lksK L k) y).snd) ∧ D.agg (D.p (PV.s f.name) :: D.p (PV.v (Value.int IntKind.i64 f.ver)) :: a0_27 :: a0_26 :: a0_17 :: a0_28) = a0_5 ∧ (a2_11 = y ∧ ∀ (j : Nat), j < a2_11 → appF (fun (j : Nat) => D.p (eT (knM1 L (lksK L k) j))) z_1 (fun (j : Nat) => a2_0.getD j default) j = D.p (eT (knM1 L (lksK L k) j))) ∧ a1_1) ∧ (decide ((↑z_1 : Int) < a1_10) = false → (∀ (j : Nat), let a3_0 : D := D.p (eLk (lkM L (lkI L (n1 L k) j))); j < z → a3_0 = D.p a3_0.unP) ∧ (∀ (j : Nat), let a3_0 : D := D.p (eT (knM1 L (lksK L k) j)); j < z_1 → a3_0 = D.p a3_0.unP) ∧ K a2_1 [O.box (D.p a2_13), O.box (mkAgg [D.p (PV.s f.name), D.p (eI f.ver), a0_37, a0_35, D.p (eMs f.chars), D.p a1_15, D.p a2_7]), O.box a2_1, O.dead, O.dead]))) (by kernel_rfl) ?_
 simp only [Int.toNat_natCast, decide_eq_true_eq, decide_eq_false_iff_not, and_true, true_and]
 have hn : ∀ s n, 0 ≤ s ∧ s ≤ (L.length : Int) → 0 < n → n < 2 ^ 40 → Mut Tryz.prog 20 (eDr L s) [eI n] (eDr L (n1 L s)) (vint .i64 (v1 L s n)) := fun s n h h1 h2 => next_ok L s n h hL h1 h2
 have b1 := nxb hk
 refine ⟨hn _ _ hk (by omega) (by omega), ⟨0, by omega, fun i h => by omega, rfl, rfl, rfl, ⟨rfl, fun j h => by omega⟩⟩, fun z hz => ⟨fun h1 => ?_, fun h1 => ?_⟩⟩
 ·have bc := lkIb b1 z
  have hv := v1b L (lkI L (n1 L k) z) 4 (by omega)
  have hvn : ((lkN L (lkI L (n1 L k) z) : Nat) : Int) = v1 L (lkI L (n1 L k) z) 4 := by unfold lkN; omega
  have hk3 := v1b L k 3 (by omega)
  have hkn : ((lksN L k : Nat) : Int) = v1 L k 3 := by unfold lksN; omega
  have h1' : (z : Int) < v1 L k 3 := h1
  refine ⟨hn _ _ bc (by omega) (by omega), ⟨0, by omega, fun _ _ => rfl, fun i h => by omega, rfl, rfl, ⟨rfl, fun j h => by omega⟩⟩, fun y hy => ⟨fun h2 => ?_, fun h2 => ?_⟩⟩
  ·have h2' : (y : Int) < v1 L (lkI L (n1 L k) z) 4 := h2
   have bs := sbIb (nxb bc) y
   have r0 : ∀ n, 0 < n → 0 ≤ v1 L (sbI L (n1 L (lkI L (n1 L k) z)) y) n ∧ v1 L (sbI L (n1 L (lkI L (n1 L k) z)) y) n < n := v1b L _
   have r1 := r0 8 (by omega)
   have r2 := v1b L (n1 L (sbI L (n1 L (lkI L (n1 L k) z)) y)) 4 (by omega)
   have r3 := v1b L (n2 L (sbI L (n1 L (lkI L (n1 L k) z)) y)) 4 (by omega)
   have hsn : ((sbN L (sbI L (n1 L (lkI L (n1 L k) z)) y) : Nat) : Int) = 1 + v1 L (n1 L (sbI L (n1 L (lkI L (n1 L k) z)) y)) 4 / 2 + v1 L (n2 L (sbI L (n1 L (lkI L (n1 L k) z)) y)) 4 / 3 := by unfold sbN; omega
   have eq1 : ∀ v d : Int, 0 ≤ v → v < 4 → 0 < d → IntKind.wrap .i64 (Int.tdiv v d) = v / d := fun v d h0 h1 hd => by
    rw [Int.tdiv_eq_ediv_of_nonneg h0]
    have h3 := Int.ediv_nonneg h0 (Int.le_of_lt hd)
    have h4 := Int.ediv_le_self d h0
    exact wr64 (by omega) (by omega) rfl
   refine ⟨hn _ _ bs (by omega) (by omega), wr64 (by show _ ≤ 1 + v1 L _ 8; omega) (by show 1 + v1 L _ 8 ≤ _; omega) rfl, hn _ _ (nxb bs) (by omega) (by omega), by omega, hn _ _ (nxb (nxb bs)) (by omega) (by omega), by omega, ?_, ⟨0, by omega, fun _ _ => rfl, fun _ _ => rfl, fun i h => by omega, rfl, rfl, rfl, ⟨rfl, fun j h => by omega⟩⟩, fun x hx => ⟨fun h3 => ?_, fun h3 => ?_⟩⟩
   ·show IntKind.wrap .i64 (IntKind.wrap .i64 (1 + IntKind.wrap .i64 (Int.tdiv (v1 L (n1 L (sbI L (n1 L (lkI L (n1 L k) z)) y)) 4) 2)) + IntKind.wrap .i64 (Int.tdiv (v1 L (n2 L (sbI L (n1 L (lkI L (n1 L k) z)) y)) 4) 3)) = _
    rw [eq1 _ 2 (by omega) (by omega) (by omega), eq1 _ 3 (by omega) (by omega) (by omega), hsn, show IntKind.wrap .i64 (1 + v1 L (n1 L (sbI L (n1 L (lkI L (n1 L k) z)) y)) 4 / 2) = 1 + v1 L (n1 L (sbI L (n1 L (lkI L (n1 L k) z)) y)) 4 / 2 from wr64 (by omega) (by omega) rfl]
    exact wr64 (by omega) (by omega) rfl
   ·have bt := tkb (nxb (nxb (nxb bs))) x
    have r4 := v1b L (tk L (n3 L (sbI L (n1 L (lkI L (n1 L k) z)) y)) x) 8 (by omega)
    exact ⟨hn _ _ bt (by omega) (by omega), wr64 (by show _ ≤ 1 + v1 L _ 8; omega) (by show 1 + v1 L _ 8 ≤ _; omega) rfl, by omega, x + 1, by omega, by omega, fun _ _ => rfl, fun _ _ => rfl, fun i _ => app_ren (fun _ => rfl) (fun i => one_ren rfl i) i, wr64 (by omega) (by omega) (by omega), rfl, rfl, ⟨rfl, fun j hj => app_one (n := x) rfl hj⟩⟩
   ·have : x = sbN L (sbI L (n1 L (lkI L (n1 L k) z)) y) := by omega
    subst this
    have bt := sbb bs
    have ro : ∀ c : Int, 0 ≤ 1 + v1 L c 8 ∧ 1 + v1 L c 8 < 10 := fun c => by have := v1b L c 8 (by omega); omega
    have hw8 : ∀ c : Int, IntKind.wrap .i64 (1 + v1 L c 8) = 1 + v1 L c 8 := fun c => wr64 (by have := ro c; omega) (by have := ro c; omega) rfl
    have hle : ∀ (l : List Int) (c : Int), l = [1 + v1 L c 8] → 1 = l.length ∧ ∀ j, j < 1 → leP (nthD [D.p (PV.v (Value.int .i64 (IntKind.wrap .i64 (1 + v1 L c 8))))] j).unP (eI (l.getD j 0)) := fun l c e => ⟨by rw [e]; rfl, fun j hj => by
     rw [e]; rcases j with _ | j
     ·exact leP_eq (congrArg eI (hw8 c))
     ·omega⟩
    have hone : ∀ (d : PV) j, j < 1 → nthD [D.p d] j = D.p (nthD [D.p d] j).unP := fun d j hj => by
     rcases j with _ | j
     ·rfl
     ·omega
    have hfr : sbN L (sbI L (n1 L (lkI L (n1 L k) z)) y) = (sbM L (sbI L (n1 L (lkI L (n1 L k) z)) y)).frm.length ∧ ∀ j, j < sbN L (sbI L (n1 L (lkI L (n1 L k) z)) y) → PV.v (Value.int IntKind.i64 (sbF1 L (sbI L (n1 L (lkI L (n1 L k) z)) y) j)) = eI ((sbM L (sbI L (n1 L (lkI L (n1 L k) z)) y)).frm.getD j 0) := ⟨(len_rm _ _).symm, fun j hj => congrArg eI (getD_rm hj).symm⟩
    refine ⟨hn _ _ bt (by omega) (by omega), fun hb => ?_, fun hb => ?_⟩
    ·have hb' : v1 L (sbB L (sbI L (n1 L (lkI L (n1 L k) z)) y)) 3 = 1 := eq_of_beq hb
     have hbf : (sbM L (sbI L (n1 L (lkI L (n1 L k) z)) y)).before = [1 + v1 L (n1 L (sbB L (sbI L (n1 L (lkI L (n1 L k) z)) y))) 8] := if_pos hb'
     have hok : optK L (sbB L (sbI L (n1 L (lkI L (n1 L k) z)) y)) = n2 L (sbB L (sbI L (n1 L (lkI L (n1 L k) z)) y)) := if_pos hb'
     refine ⟨hn _ _ (nxb bt) (by omega) (by omega), by omega, hn _ _ (nxb (nxb bt)) (by omega) (by omega), fun ha => ?_, fun ha => ?_⟩
     ·have ha' : v1 L (n2 L (sbB L (sbI L (n1 L (lkI L (n1 L k) z)) y))) 3 = 1 := eq_of_beq ha
      have haf : (sbM L (sbI L (n1 L (lkI L (n1 L k) z)) y)).after = [1 + v1 L (n1 L (n2 L (sbB L (sbI L (n1 L (lkI L (n1 L k) z)) y)))) 8] := by
       show opt1 L (optK L (sbB L (sbI L (n1 L (lkI L (n1 L k) z)) y))) = _
       rw [hok]; exact if_pos ha'
      have hnx : sbI L (n1 L (lkI L (n1 L k) z)) (y + 1) = n2 L (n2 L (sbB L (sbI L (n1 L (lkI L (n1 L k) z)) y))) := by
       show optK L (optK L (sbB L (sbI L (n1 L (lkI L (n1 L k) z)) y))) = _
       rw [hok]; exact if_pos ha'
      exact ⟨hn _ _ (nxb (nxb (nxb bt))) (by omega) (by omega), by omega, hone _, fun _ _ => rfl, hone _, ⟨hle _ _ hbf, hfr, hle _ _ haf, rfl⟩, by omega, y + 1, by omega, by omega, fun _ _ => rfl, fun i _ => app_ren (fun _ => rfl) (fun i => one_ren rfl i) i, wr64 (by omega) (by omega) (by omega), congrArg (fun q => D.p (eDr L q)) hnx.symm, ⟨rfl, fun j hj => app_one (n := y) rfl hj⟩⟩
     ·have ha' : ¬ v1 L (n2 L (sbB L (sbI L (n1 L (lkI L (n1 L k) z)) y))) 3 = 1 := ne_of_beq_false ha
      have haf : (sbM L (sbI L (n1 L (lkI L (n1 L k) z)) y)).after = [] := by
       show opt1 L (optK L (sbB L (sbI L (n1 L (lkI L (n1 L k) z)) y))) = _
       rw [hok]; exact if_neg ha'
      have hnx : sbI L (n1 L (lkI L (n1 L k) z)) (y + 1) = n1 L (n2 L (sbB L (sbI L (n1 L (lkI L (n1 L k) z)) y))) := by
       show optK L (optK L (sbB L (sbI L (n1 L (lkI L (n1 L k) z)) y))) = _
       rw [hok]; exact if_neg ha'
      exact ⟨hone _, fun _ _ => rfl, ⟨hle _ _ hbf, hfr, by rw [haf]; rfl, rfl⟩, by omega, y + 1, by omega, by omega, fun _ _ => rfl, fun i _ => app_ren (fun _ => rfl) (fun i => one_ren rfl i) i, wr64 (by omega) (by omega) (by omega), congrArg (fun q => D.p (eDr L q)) hnx.symm, ⟨rfl, fun j hj => app_one (n := y) rfl hj⟩⟩
    ·have hb' : ¬ v1 L (sbB L (sbI L (n1 L (lkI L (n1 L k) z)) y)) 3 = 1 := ne_of_beq_false hb
     have hbf : (sbM L (sbI L (n1 L (lkI L (n1 L k) z)) y)).before = [] := if_neg hb'
     have hok : optK L (sbB L (sbI L (n1 L (lkI L (n1 L k) z)) y)) = n1 L (sbB L (sbI L (n1 L (lkI L (n1 L k) z)) y)) := if_neg hb'
     refine ⟨hn _ _ (nxb bt) (by omega) (by omega), fun ha => ?_, fun ha => ?_⟩
     ·have ha' : v1 L (n1 L (sbB L (sbI L (n1 L (lkI L (n1 L k) z)) y))) 3 = 1 := eq_of_beq ha
      have haf : (sbM L (sbI L (n1 L (lkI L (n1 L k) z)) y)).after = [1 + v1 L (n1 L (n1 L (sbB L (sbI L (n1 L (lkI L (n1 L k) z)) y)))) 8] := by
       show opt1 L (optK L (sbB L (sbI L (n1 L (lkI L (n1 L k) z)) y))) = _
       rw [hok]; exact if_pos ha'
      have hnx : sbI L (n1 L (lkI L (n1 L k) z)) (y + 1) = n2 L (n1 L (sbB L (sbI L (n1 L (lkI L (n1 L k) z)) y))) := by
       show optK L (optK L (sbB L (sbI L (n1 L (lkI L (n1 L k) z)) y))) = _
       rw [hok]; exact if_pos ha'
      exact ⟨hn _ _ (nxb (nxb bt)) (by omega) (by omega), by omega, fun _ _ => rfl, hone _, ⟨by rw [hbf]; rfl, hfr, hle _ _ haf, rfl⟩, by omega, y + 1, by omega, by omega, fun _ _ => rfl, fun i _ => app_ren (fun _ => rfl) (fun i => one_ren rfl i) i, wr64 (by omega) (by omega) (by omega), congrArg (fun q => D.p (eDr L q)) hnx.symm, ⟨rfl, fun j hj => app_one (n := y) rfl hj⟩⟩
     ·have ha' : ¬ v1 L (n1 L (sbB L (sbI L (n1 L (lkI L (n1 L k) z)) y))) 3 = 1 := ne_of_beq_false ha
      have haf : (sbM L (sbI L (n1 L (lkI L (n1 L k) z)) y)).after = [] := by
       show opt1 L (optK L (sbB L (sbI L (n1 L (lkI L (n1 L k) z)) y))) = _
       rw [hok]; exact if_neg ha'
      have hnx : sbI L (n1 L (lkI L (n1 L k) z)) (y + 1) = n1 L (n1 L (sbB L (sbI L (n1 L (lkI L (n1 L k) z)) y))) := by
       show optK L (optK L (sbB L (sbI L (n1 L (lkI L (n1 L k) z)) y))) = _
       rw [hok]; exact if_neg ha'
      exact ⟨fun _ _ => rfl, ⟨by rw [hbf]; rfl, hfr, by rw [haf]; rfl, rfl⟩, by omega, y + 1, by omega, by omega, fun _ _ => rfl, fun i _ => app_ren (fun _ => rfl) (fun i => one_ren rfl i) i, wr64 (by omega) (by omega) (by omega), congrArg (fun q => D.p (eDr L q)) hnx.symm, ⟨rfl, fun j hj => app_one (n := y) rfl hj⟩⟩
  ·have h2' : ¬ (y : Int) < v1 L (lkI L (n1 L k) z) 4 := h2
   have : y = lkN L (lkI L (n1 L k) z) := by omega
   subst this
   refine ⟨fun j _ => rfl, ⟨(len_rm _ _).symm, fun j hj => ?_⟩, by omega, z + 1, by omega, by omega, fun i _ => app_ren (fun _ => rfl) (fun i => one_ren rfl i) i, wr64 (by omega) (by omega) (by omega), rfl, rfl, ⟨rfl, fun j hj => app_one (n := z) rfl hj⟩⟩
   have hg : (lkM L (lkI L (n1 L k) z)).getD j sb0 = sbM L (sbI L (n1 L (lkI L (n1 L k) z)) j) := getD_rm hj
   rw [hg]
   exact ⟨⟨rfl, fun _ _ => rfl⟩, ⟨rfl, fun _ _ => rfl⟩, ⟨rfl, fun _ _ => rfl⟩, rfl⟩
 ·have h1' : ¬ (z : Int) < v1 L k 3 := h1
  have hk3 := v1b L k 3 (by omega)
  have hkn : ((lksN L k : Nat) : Int) = v1 L k 3 := by unfold lksN; omega
  have : z = lksN L k := by omega
  subst this
  have bc := lkIb b1 (lksN L k)
  have hv := v1b L (lksK L k) 4 (by omega)
  have hvn : ((knN L (lksK L k) : Nat) : Int) = v1 L (lksK L k) 4 := by unfold knN; omega
  refine ⟨hn _ _ bc (by omega) (by omega), ⟨0, by omega, fun _ _ => rfl, fun i h => by omega, rfl, rfl, rfl, ⟨rfl, fun j h => by omega⟩⟩, fun y hy => ⟨fun h2 => ?_, fun h2 => ?_⟩⟩
  ·have h2' : (y : Int) < v1 L (lksK L k) 4 := h2
   have bs := knIb bc y
   have q1 := knI1 L (lksK L k) y
   have q2 := knI1 L (lksK L k) (y + 1)
   have r1 := v1b L (knI L (lksK L k) y).2 20 (by omega)
   have r2 := v1b L (n1 L (knI L (lksK L k) y).2) 9 (by omega)
   have q0 : (knI L (lksK L k) (y + 1)).1 = (knI L (lksK L k) y).1 + 1 + v1 L (knI L (lksK L k) y).2 20 := rfl
   refine ⟨hn _ _ bs (by omega) (by omega), ?_, by omega, ?_, by omega, ?_, hn _ _ (nxb bs) (by omega) (by omega), ?_, by omega, y + 1, by omega, by omega, fun _ _ => rfl, fun i _ => app_ren (fun _ => rfl) (fun i => one_ren rfl i) i, wr64 (by omega) (by omega) (by omega), rfl, rfl, rfl, ⟨rfl, fun j hj => app_one (n := y) rfl hj⟩⟩
   ·show IntKind.wrap .i64 (IntKind.wrap .i64 ((knI L (lksK L k) y).1 + 1) + v1 L (knI L (lksK L k) y).2 20) = _
    rw [show IntKind.wrap .i64 ((knI L (lksK L k) y).1 + 1) = (knI L (lksK L k) y).1 + 1 from wr64 (by omega) (by omega) rfl]
    exact wr64 (by omega) (by omega) rfl
   ·rw [Int.tdiv_eq_ediv_of_nonneg (by omega), show IntKind.wrap .i64 ((knI L (lksK L k) (y + 1)).1 / 8) = (knI L (lksK L k) (y + 1)).1 / 8 from wr64 (by omega) (by omega) rfl]
    exact wr64 (by omega) (by omega) rfl
   ·rw [Int.tmod_eq_emod_of_nonneg (by omega)]
    exact wr64 (by omega) (by omega) rfl
   ·show IntKind.wrap .i64 (4 * IntKind.wrap .i64 (v1 L (n1 L (knI L (lksK L k) y).2) 9 - 5)) = _
    rw [show IntKind.wrap .i64 (v1 L (n1 L (knI L (lksK L k) y).2) 9 - 5) = v1 L (n1 L (knI L (lksK L k) y).2) 9 - 5 from wr64 (by omega) (by omega) rfl]
    exact wr64 (by omega) (by omega) rfl
  ·have h2' : ¬ (y : Int) < v1 L (lksK L k) 4 := h2
   have : y = knN L (lksK L k) := by omega
   subst this
   refine ⟨fun _ _ => rfl, fun _ _ => rfl, ⟨leP_refl _, leP_refl _, leP_refl _, leP_refl _, leP_refl _, ⟨(len_rm _ _).symm, fun j hj => leP_eq (congrArg eLk (show lkM L (lkI L (n1 L k) j) = (lksM L k).getD j [] from (getD_rm (f := fun i => lkM L (lkI L (n1 L k) i)) hj).symm))⟩, ⟨(len_rm _ _).symm, fun j hj => leP_eq (congrArg eT (show knM1 L (lksK L k) j = (knM L (lksK L k)).getD j tn0 from (getD_rm hj).symm))⟩, trivial⟩, leP_refl _⟩
end Go.Proofs.YtekhlnihpfkkkaaGreatDoor
namespace Go.Proofs.YtekhlnihpfkkkaaGreatDoor
open Go.Eng
def nmL : List (List UInt8) := [[115, 97, 110, 115], [115, 101, 114, 105, 102], [109, 111, 110, 111]]
def nmS (v : Int) : List UInt8 := nmL.getD v.toNat []
def axC (v : Int) : Nat := if v = 1 then 0 else if v = 4 then 2 else 1
def tgL : List (List UInt8) := [[119, 103, 104, 116], [119, 100, 116, 104]]
def tgS (i : Nat) : List UInt8 := tgL.getD i []
def axM (L : List Int) (s : Int) (i : Nat) : Ax := ⟨tgS i, -100 * v1 L (mk L s i) 2, 0, 100 + 100 * v1 L (n1 L (mk L s i)) 2⟩
def gnS (k : Nat) : List UInt8 := [103, UInt8.ofNat (48 + k)]
def glOut (E : List Int) (k : Nat) : List (List Pt) := outM E (n1 E 0) k
def glS1 (E : List Int) : Int := outK E (n1 E 0)
def glDel (E : List Int) (ax k : Nat) : List Dl := delsM E (cnt (glOut E k)) ax (n2 E (glS1 E))
def glPts (E : List Int) : List Tn := [(1 + v1 E (n1 E 0) 5, 4 * v1 E (n2 E 0) 3, 0), (1 + v1 E (n3 E 0) 5, 8, 8 * v1 E (n4 E 0) 3)]
def glSt (E : List Int) (ax k : Nat) : Int := if k = 6 then n5 E 0 else delsK E (cnt (glOut E k)) ax (n2 E (glS1 E))
def gl1 (E : List Int) (ax k : Nat) : Gl := if k = 6 then ⟨gnS k, 40 + 4 * v1 E 0 4, [], [], glPts E, (0, 0), []⟩ else ⟨gnS k, 40 + 4 * v1 E 0 4, glOut E k, glDel E ax k, [], hintM E (glS1 E), []⟩
def alM (k i : Nat) : Int := 1 + ((k : Int) + 3 * (i : Int) + 1) % 8
def glA (E : List Int) (ax k : Nat) : Nat := (v1 E (glSt E ax k) 3).toNat
def glB : Gl := ⟨[98, 108, 97, 110, 107], 16, [], [], [], (0, 0), []⟩
def glM (l : List (List Int)) (ax k : Nat) : Gl := if k = 0 then glB else { gl1 (l.getD k []) ax k with alts := (List.range (glA (l.getD k []) ax k)).map (alM k) }
def glE (l : List (List Int)) (ax k : Nat) : PV := if k = 0 then .agg [.s [98, 108, 97, 110, 107], eI 16, pnil, pnil, pnil, pnil, pnil] else eGl (glM l ax k)
def chS (z : Nat) : Int := [45, 48, 49, 97, 98, 99, 100, 101, 102].getD z 0
def chG (last : Int) (z : Nat) : Int := [8, 6, 5, 1, 2, 3, 4, 7, last].getD z 0
def mdA (L : List Int) : Nat := axC (v1 L (n2 L 0) 5)
def mdL (L : List Int) : Int := 1 + v1 L (mk L (n3 L 0) (mdA L)) 8
def mdF (l : List (List Int)) : Ft := ⟨nmS (v1 (l.getD 0 []) 0 3), v1 (l.getD 0 []) (n1 (l.getD 0 []) 0) 4, (List.range (mdA (l.getD 0 []))).map (axM (l.getD 0 []) (n3 (l.getD 0 []) 0)), (List.range 9).map (glM l (mdA (l.getD 0 []))), (List.range 9).map fun z => (chS z, chG (mdL (l.getD 0 [])) z), [], []⟩
def madeS (l : List (List Int)) : Ft := { mdF l with lks := lksM (l.getD 9 []) 0, kerns := knM (l.getD 9 []) (lksK (l.getD 9 []) 0) }
def eG1 (g : Gl) : PV := .agg [.s g.name, eI g.adv, eO g.out, eDls g.del, eTs g.parts, eTs (hpM g.hint), pnil]
def bxG (f : Ft) (a b c : D) : O := .box (.agg [.p (.s f.name), .p (eI f.ver), a, b, c, .p pnil, .p pnil])
def lMd (l : List (List Int)) (L : List Int) : Nat → Env → List O → Option LH := fun r E H =>
 bif Nat.beq r 5 then some (mkLA E H [0, 2, 3, 4, 5] [1, 2, 3] (fun z : Nat => [(6, none, vint .i64 z)]) (fun z => [(1, bxD L (mk L (n3 L 0) z)), (2, bxG (mdF l) (.own 3) (.p pnil) (.p pnil))]) (fun z => [.arr 72 4 z fun j => .p (eAx (axM L (n3 L 0) j))]) (fun z => z ≤ mdA L) (fun z => mdA L - z))
 else bif Nat.beq r 11 then some (mkLH E H [0, 2, 4, 5, 7] [4] (fun z : Nat => [(8, none, vint .i64 z)]) (fun z => [(4, .arr 40 7 z fun j => .p (glE l (mdA L) j))]) (fun z => 1 ≤ z ∧ z ≤ 9) (fun z => 9 - z))
 else bif Nat.beq r 27 then some (mkLA E H [0, 2, 4, 7] [2, 5] (fun z : Nat => [(13, none, vint .i64 z)]) (fun _ => [(2, bxG (mdF l) (.own 3) (.own 4) (.own 5))]) (fun z => [.arr 80 2 z fun j => .p (eR (chS j, chG (mdL L) j))]) (fun z => z ≤ 9) (fun z => 9 - z))
 else wK E 8 none fun k => some (mkLA E H [0, 2, 4, 5, 7, 8, 10, 11] [6, 7] (fun y : Nat => [(12, none, vint .i64 y)]) (fun _ => [(6, .box (.agg [.p (.s (gl1 (l.getD k []) (mdA L) k).name), .p (eI (gl1 (l.getD k []) (mdA L) k).adv), .p (eO (gl1 (l.getD k []) (mdA L) k).out), .p (eDls (gl1 (l.getD k []) (mdA L) k).del), .p (eTs (gl1 (l.getD k []) (mdA L) k).parts), .p (eTs (hpM (gl1 (l.getD k []) (mdA L) k).hint)), .own 7]))]) (fun y => [.arr 3 1 y fun j => vint .i64 (alM k j)]) (fun y => y ≤ glA (l.getD k []) (mdA L) k) (fun y => glA (l.getD k []) (mdA L) k - y))
def reMd (l : List (List Int)) (L : List Int) : Env → Nat → RH → RH := fun E r R =>
 bif Nat.beq r 2 then { R with cs := [(0, .p (.lst 1 3 fun j => .s (nmL.getD j [])))], hs := [(4, .p (.s (nmS (v1 L 0 3))))] }
 else bif Nat.beq r 3 then { R with cs := [(0, .p (.lst 1 5 fun j => eI ([1, 0, 1, 1, 2].getD j 0)))], hs := [(4, vint .i64 (mdA L))] }
 else bif Nat.beq r 7 then wR E 6 R fun z => { R with cs := [(2, .p (.lst 1 2 fun j => .s (tgL.getD j [])))], hs := [(5, .p (.s (tgS z))), (8, vint .i64 (axM L (n3 L 0) z).low), (12, vint .i64 (axM L (n3 L 0) z).high)] }
 else bif Nat.beq r 8 then { R with hs := [(2, vint .i64 (mdL L))] }
 else bif Nat.beq r 29 then wR E 13 R fun z => { R with wx := true, cs := [(6, .p (.lst 1 9 fun j => eI (chG (mdL L) j)))], hs := [(4, vint .i64 (chS z)), (9, vint .i64 (chG (mdL L) z))] }
 else bif Nat.beq r 30 then { R with frz := [4, 4, 4], zb := [(2, eFn0 (mdF l))] }
 else wR E 8 R fun k =>
  bif Nat.beq r 14 then { R with cs := [(3, .p (.lst 1 1 fun j => .v (.int .u8 (([UInt8.ofNat (48 + k)].getD j 0).toNat : Int)))), (4, .p (.s [UInt8.ofNat (48 + k)]))], hs := [(5, .p (.s (gnS k))), (9, vint .i64 (40 + 4 * v1 (l.getD k []) 0 4))] }
  else bif Nat.beq r 16 then { R with cs := [(14, .p (eTs (glPts (l.getD k []))))], hs := [(2, vint .i64 (1 + v1 (l.getD k []) (n1 (l.getD k []) 0) 5)), (5, vint .i64 (4 * v1 (l.getD k []) (n2 (l.getD k []) 0) 3)), (9, vint .i64 (1 + v1 (l.getD k []) (n3 (l.getD k []) 0) 5)), (12, vint .i64 (8 * v1 (l.getD k []) (n4 (l.getD k []) 0) 3))] }
  else bif Nat.beq r 25 then { R with frz := [10], zb := [(6, eGl (glM l (mdA L) k))] }
  else bif Nat.beq r 24 then wR E 12 R (fun y => { R with hs := [(8, vint .i64 (alM k y))] })
  else R
def jnMd (l : List (List Int)) (L : List Int) : Nat → Env → List O → Option JH := fun r E H =>
 bif Nat.beq r 1 then some ⟨[(3, none, .ref 1 [])], keepE [0, 2] E, H ++ [bxD L 0], [], [(1, eDr L 0)]⟩
 else bif Nat.beq r 2 then some ⟨[(4, none, .ref 2 [])], keepE [0, 2, 3] E, setHs H [(1, bxD L (n2 L 0))] ++ [.box (.p (.agg [.s (mdF l).name, eI (mdF l).ver, pnil, pnil, pnil, pnil, pnil]))], [1], []⟩
 else match E.get 8 with
 | some (_, .p (.v (.int _ k))) =>
  bif Nat.beq r 13 then some ⟨[(9, none, .ref 5 [])], keepE [0, 2, 4, 5, 7, 8] E, H ++ [bxD (l.getD k.toNat []) 0], [], [(5, eDr (l.getD k.toNat []) 0)]⟩
  else bif Nat.beq r 14 then some ⟨[(10, none, .ref 6 [])], keepE [0, 2, 4, 5, 7, 8, 9] E, setHs H [(5, bxD (l.getD k.toNat []) (n1 (l.getD k.toNat []) 0))] ++ [.box (.p (.agg [.s (gnS k.toNat), eI (40 + 4 * v1 (l.getD k.toNat []) 0 4), pnil, pnil, pnil, pnil, pnil]))], [5], []⟩
  else bif Nat.beq r 1076 then some ⟨[], keepE [0, 2, 4, 5, 7, 8, 9, 10] E, setHs H [(5, bxD (l.getD k.toNat []) (glSt (l.getD k.toNat []) (mdA L) k.toNat)), (6, .box (.p (eG1 (gl1 (l.getD k.toNat []) (mdA L) k.toNat))))], [5, 6], [(5, eDr (l.getD k.toNat []) (glSt (l.getD k.toNat []) (mdA L) k.toNat)), (6, eG1 (gl1 (l.getD k.toNat []) (mdA L) k.toNat))]⟩
  else none
 | _ => none
def pcMd (l : List (List Int)) : Env → FuncId → List PV → Option D := fun E f _ => bif Nat.beq f 24 then wD E 8 (fun k => some (vint .i64 (cnt (glOut (l.getD k []) k)))) else none
def pmMd (l : List (List Int)) (L : List Int) : Env → FuncId → PV → List PV → Option (PV × D) := fun E f x ar =>
 bif Nat.beq f 20 then pmN E f x ar
 else bif Nat.beq f 25 then some (eDr (l.getD 9 []) (tabK (l.getD 9 []) 0), .p (eFn (madeS l)))
 else match E.get 8 with
 | some (_, .p (.v (.int _ k))) => 
  bif Nat.beq f 21 then some (eDr (l.getD k.toNat []) (glS1 (l.getD k.toNat [])), .p (eO (glOut (l.getD k.toNat []) k.toNat)))
  else bif Nat.beq f 22 then some (eDr (l.getD k.toNat []) (n2 (l.getD k.toNat []) (glS1 (l.getD k.toNat []))), .p (eTs (hpM (hintM (l.getD k.toNat []) (glS1 (l.getD k.toNat []))))))
  else bif Nat.beq f 23 then some (eDr (l.getD k.toNat []) (delsK (l.getD k.toNat []) (cnt (glOut (l.getD k.toNat []) k.toNat)) (mdA L) (n2 (l.getD k.toNat []) (glS1 (l.getD k.toNat [])))), .p (eDls (glDel (l.getD k.toNat []) (mdA L) k.toNat)))
  else none
 | _ => none
def hMd (l : List (List Int)) (L : List Int) : FuncId → FH := fun f => bif Nat.beq f 5 then { sp := List.range 160, pm := pmMd l L, pe := pcMd l, re := reMd l L, jn := jnMd l L, reg := fun _ => { sh := none, g := 2 }, lp := lMd l L } else { sp := List.range 20, reg := fun _ => { sh := none, g := 2 } }
theorem outKb {L : List Int} {k : Int} (h : 0 ≤ k ∧ k ≤ L.length) : 0 ≤ outK L k ∧ outK L k ≤ L.length := by
 unfold outK
 split
 ·exact nxb (nxb (nxb (nxb h)))
 ·split
  ·exact nxb (nxb (nxb (nxb h)))
  ·exact nxb (nxb (nxb (nxb (nxb h))))
theorem outM_len (L : List Int) (k : Int) (i : Int) : (outM L k i).length ≤ 2 ∧ cnt (outM L k i) ≤ 8 := by
 unfold outM
 split
 ·exact ⟨by simp, by simp [cnt, off, barS]⟩
 ·split
  ·exact ⟨by simp, by simp [cnt, off, barS]⟩
  ·exact ⟨by simp, by simp [cnt, off, barS]⟩
theorem mut_le {P : Program} {f : FuncId} {x x0 : PV} {args : List PV} {x1 : PV} {res : D} (h : Mut P f x0 args x1 res) (hx : leP x x0) : Mut P f x args x1 res :=
 fun F w b T c vs h1 h2 h3 h4 h5 h6 h7 => h F w b T c vs h1 h2 h3 h4 (leP_rel hx h5) h6 h7
set_option maxRecDepth 100000 in
theorem made_ok (l : List (List Int)) (hl : l.length < 2 ^ 40) (hc : ∀ k, (l.getD k []).length < 2 ^ 40) : Pure Tryz.prog 5 [eLL l] (.p (eFn (madeS l))) := by
 let K : D → Prop := fun d => endL (.p (eFn (madeS l))) d []
 refine pure_byL 20 (hMd l (l.getD 0 [])) (p :=
  let a0_59 : PV := PV.v (Value.int IntKind.i64 (↑(mdA (l.getD 0 [])) : Int)); let a0_58 : Int := nxK (l.getD 0 []).length (0 : Int); let a0_57 : PV := PV.lst 4 (mdF l).axes.length fun (i : Nat) => eAx ((mdF l).axes.getD i ax0); let a0_56 : PV := PV.lst 7 (mdF l).gls.length fun (i : Nat) => eGl ((mdF l).gls.getD i gl0); let a0_55 : Nat × Option Bool × D := (0, none, D.p (eLL l)); let a0_54 : List UInt8 := nmS (v1 (l.getD 0 []) (0 : Int) (3 : Int)); let a0_53 : Nat × Option Bool × D := (3, none, D.ref 1 []); let a0_52 : Nat × Option Bool × D := (2, none, D.ref 0 []); let a0_51 : Nat × Option Bool × D := (4, none, D.ref 2 []); let a0_50 : Nat × Option Bool × D := (10, none, D.ref 6 []); let a0_49 : Nat × Option Bool × D := (9, none, D.ref 5 []); let a0_48 : PV := eDr (l.getD 0 []) (n2 (l.getD 0 []) (0 : Int)); let a0_47 : PV := eDr (l.getD 9 []) (tabK (l.getD 9 []) (0 : Int)); let a0_46 : Int := nxK (l.getD 0 []).length (n2 (l.getD 0 []) (0 : Int)); let a0_45 : Int := nxK (l.getD 0 []).length a0_58; let a0_44 : Nat × Option Bool × D := (7, none, D.p (PV.v (Value.int IntKind.i64 (mdL (l.getD 0 []))))); let a0_43 : List PV := [PV.v (Value.slice none 0 0), PV.v (Value.slice none 0 0)]; let a0_42 : PV := PV.lst 2 (mdF l).chars.length fun (i : Nat) => eR ((mdF l).chars.getD i ((0 : Int), (0 : Int))); let a0_41 : Nat × Option Bool × D := (5, none, D.p a0_59); let a0_40 : List D := [D.p (PV.v (Value.slice none 0 0)), D.p (PV.v (Value.slice none 0 0))]; let a0_39 : List Int := [(1 : Int), (0 : Int), (1 : Int), (1 : Int), (2 : Int)]; let a0_38 : List (Nat × Option Bool × D) := [a0_49]; let a0_37 : PV := PV.lst 1 (l.getD 0 []).length fun (i : Nat) => eI ((l.getD 0 []).getD i (0 : Int)); let a0_36 : D := D.agg [D.p (PV.s (mdF l).name), D.p (eI (mdF l).ver), D.own 3, D.p pnil, D.p pnil, D.p pnil, D.p pnil]; let a0_35 : List (Nat × Nat) := numbered [0, 1, 2, 3, 4] 0; let a0_34 : List (Nat × Nat) := numbered [0, 1, 2, 3, 9] 0; let a0_33 : List (Nat × Option Bool × D) := [a0_44]; let a0_32 : Int := nxV (l.getD 0 []).length (0 : Int) ((l.getD 0 []).getD 0 (0 : Int)) (3 : Int); let a0_31 : D := vint IntKind.i64 a0_32; let a0_30 : D := D.agg [D.p (PV.s (mdF l).name), D.p (eI (mdF l).ver), D.own 3, D.own 4, D.own 5, D.p pnil, D.p pnil]; let a0_29 : List (Nat × Nat) := numbered [0, 1, 2, 3, 4, 5] 0; let a0_28 : List (Nat × Nat) := numbered [0, 1, 2, 3, 4, 7] 0; let a0_27 : List D := D.p (PV.v (Value.slice none 0 0)) :: a0_40; let a0_26 : List UInt8 := nmL.getD a0_32.toNat []; let a0_25 : List (Nat × Nat) := numbered [0, 1, 2, 3, 4, 5, 6] 0; let a0_24 : List (Nat × Nat) := numbered [0, 1, 2, 3, 4, 5, 6, 9] 0; let a0_23 : List (Nat × Nat) := numbered [0, 1, 2, 3, 4, 5, 6, 7] 0; let a0_22 : List (Nat × Option Bool × D) := [a0_55, a0_52]; let a0_21 : PV := PV.agg [a0_37, eI a0_58]; let a0_20 : List (Nat × Option Bool × D) := [a0_49, a0_50]; let a0_19 : Int := nxV (l.getD 0 []).length (n2 (l.getD 0 []) (0 : Int)) ((l.getD 0 []).getD (n2 (l.getD 0 []) (0 : Int)).toNat (0 : Int)) (5 : Int); let a0_18 : Int := nxV (l.getD 0 []).length a0_58 ((l.getD 0 []).getD a0_58.toNat (0 : Int)) (4 : Int); let a0_17 : D := D.agg (D.p (PV.s (mdF l).name) :: D.p (PV.v (Value.int IntKind.i64 (mdF l).ver)) :: D.own 3 :: D.own 4 :: D.own 5 :: a0_40); let a0_16 : List PV := PV.v (Value.slice none 0 0) :: PV.v (Value.slice none 0 0) :: PV.v (Value.slice none 0 0) :: a0_43; let a0_15 : O := O.box (D.agg (D.p (PV.s (mdF l).name) :: D.p (PV.v (Value.int IntKind.i64 (mdF l).ver)) :: D.own 3 :: D.own 4 :: a0_27)); let a0_14 : List (Nat × Option Bool × D) := [a0_55, a0_52, a0_53]; let a0_13 : O := O.box (D.p (PV.agg (PV.s [] :: PV.v (Value.int IntKind.i64 (0 : Int)) :: a0_16))); let a0_12 : List O := [a0_13]; let a0_11 : List O := [a0_13, O.box (D.p (eDr (l.getD 0 []) (0 : Int)))]; let a0_10 : List PV := [PV.agg (PV.s (mdF l).name :: PV.v (Value.int IntKind.i64 (mdF l).ver) :: a0_57 :: a0_56 :: a0_42 :: a0_43)]; let a0_9 : List (Nat × Option Bool × D) := a0_55 :: a0_52 :: a0_51 :: a0_33; let a0_8 : D := D.p (PV.agg [PV.s (madeS l).name, PV.v (Value.int IntKind.i64 (madeS l).ver), PV.lst 4 (madeS l).axes.length fun (i : Nat) => eAx ((madeS l).axes.getD i ax0), PV.lst 7 (madeS l).gls.length fun (i : Nat) => eGl ((madeS l).gls.getD i gl0), PV.lst 2 (madeS l).chars.length fun (i : Nat) => eR ((madeS l).chars.getD i ((0 : Int), (0 : Int))), PV.lst 1 (madeS l).lks.length fun (i : Nat) => eLk ((madeS l).lks.getD i []), PV.lst 3 (madeS l).kerns.length fun (i : Nat) => eT ((madeS l).kerns.getD i tn0)]); let a0_7 : List D := List.map (fun (x : Nat × D) => x.snd) [(0, D.p (PV.agg (PV.s ([(98 : UInt8), (108 : UInt8), (97 : UInt8), (110 : UInt8), (107 : UInt8)] : List UInt8) :: PV.v (Value.int IntKind.i64 (16 : Int)) :: a0_16)))]; let a0_6 : List (Nat × Option Bool × D) := [a0_55, a0_52, a0_53, a0_51, a0_41]; let a0_5 : List (Nat × Option Bool × D) := a0_55 :: a0_52 :: a0_51 :: a0_41 :: a0_33; let a0_4 : Prop := a0_9 = a0_9; let a0_3 : Prop := a0_5 = a0_5; let a0_2 : Prop := a0_22 = a0_22 ∧ a0_11 = a0_11; let a0_1 : Prop := a0_6 = a0_6 ∧ a0_12 = a0_12; let a0_0 : Prop := Mut Tryz.prog 20 (PV.agg [a0_37, PV.v (Value.int IntKind.i64 a0_58)]) [PV.v (Value.int IntKind.i64 (4 : Int))] (PV.agg [a0_37, eI a0_45]) (vint IntKind.i64 a0_18) ∧ True ∧ D.p (PV.agg [a0_37, PV.v (Value.int IntKind.i64 a0_45)]) = D.p a0_48 ∧ a0_14 = a0_14 ∧ [a0_13, O.box (D.p (PV.agg (PV.s a0_54 :: PV.v (Value.int IntKind.i64 a0_18) :: a0_16)))] = [a0_13, O.box (D.p (PV.agg [PV.s (mdF l).name, eI (mdF l).ver, pnil, pnil, pnil, pnil, pnil]))]; ((decide ((↑l.length : Int) ≤ (0 : Int)) = true → ((l.getD 0 []).length = 0 ∧ PV.v (Value.int IntKind.i64 (0 : Int)) = eI (0 : Int) ∧ True) ∧ a0_2) ∧ (decide ((↑l.length : Int) ≤ (0 : Int)) = false → (0 : Int) ≤ (0 : Int) ∧ (0 : Int) < (↑l.length : Int) ∧ (leP a0_37 a0_37 ∧ PV.v (Value.int IntKind.i64 (0 : Int)) = eI (0 : Int) ∧ True) ∧ a0_2)) ∧ ((∀ (j : Nat), j < 3 → [PV.s ([(115 : UInt8), (97 : UInt8), (110 : UInt8), (115 : UInt8)] : List UInt8), PV.s ([(115 : UInt8), (101 : UInt8), (114 : UInt8), (105 : UInt8), (102 : UInt8)] : List UInt8), PV.s ([(109 : UInt8), (111 : UInt8), (110 : UInt8), (111 : UInt8)] : List UInt8)].getD j default = PV.s (nmL.getD j [])) ∧ (Mut Tryz.prog 20 (eDr (l.getD 0 []) (0 : Int)) [PV.v (Value.int IntKind.i64 (3 : Int))] a0_21 a0_31 ∧ (0 : Int) ≤ a0_32 ∧ a0_32 < (↑3 : Int) ∧ a0_26 = a0_54 ∧ a0_0 ∧ a0_0) ∧ Mut Tryz.prog 20 (eDr (l.getD 0 []) (0 : Int)) [PV.v (Value.int IntKind.i64 (3 : Int))] a0_21 a0_31 ∧ (0 : Int) ≤ a0_32 ∧ a0_32 < (↑3 : Int) ∧ a0_26 = a0_54 ∧ a0_0) ∧ (∀ (j : Nat), let a1_0 : PV := PV.v (Value.int IntKind.i64 (1 : Int)); j < 5 → [a1_0, PV.v (Value.int IntKind.i64 (0 : Int)), a1_0, a1_0, PV.v (Value.int IntKind.i64 (2 : Int))].getD j default = eI (a0_39.getD j (0 : Int))) ∧ Mut Tryz.prog 20 a0_48 [PV.v (Value.int IntKind.i64 (5 : Int))] (PV.agg [a0_37, eI a0_46]) (vint IntKind.i64 a0_19) ∧ (0 : Int) ≤ a0_19 ∧ a0_19 < (↑5 : Int) ∧ a0_39.getD a0_19.toNat (0 : Int) = (↑(mdA (l.getD 0 [])) : Int) ∧ (∃ (x : Nat), let a1_1 : List Int := l.getD 0 []; let a1_0 : Int := n3 a1_1 (0 : Int); x ≤ mdA a1_1 ∧ (∀ (i : Nat), i < 0 → D.ren (numbered [0, 1, 2, 3] 0) (D.p (eAx (axM a1_1 a1_0 i))) = some (D.p (eAx (axM a1_1 a1_0 i)))) ∧ Int.ofNat 0 = (↑x : Int) ∧ D.p (PV.agg [a0_37, PV.v (Value.int IntKind.i64 a0_46)]) = D.p (eDr a1_1 (mk a1_1 a1_0 x)) ∧ a0_36 = a0_36 ∧ (0 = x ∧ ∀ (j : Nat), j < 0 → D.p (eAx (axM a1_1 a1_0 j)) = D.p (eAx (axM a1_1 a1_0 j))) ∧ a0_1) ∧ ∀ (z : Nat), let a1_39 : PV := PV.v (Value.int IntKind.i64 (8 : Int)); let a1_38 : Int := (↑9 : Int); let a1_37 : PV := PV.v (Value.int IntKind.i64 (3 : Int)); let a1_36 : PV := PV.v (Value.int IntKind.i64 (2 : Int)); let a1_35 : PV := PV.v (Value.int IntKind.i64 (0 : Int)); let a1_34 : PV := PV.v (Value.int IntKind.i64 (4 : Int)); let a1_33 : PV := PV.v (Value.int IntKind.i64 (5 : Int)); let a1_32 : List D := [D.own 7]; let a1_31 : List Int := l.getD 0 []; let a1_30 : List Int := l.getD 9 []; let a1_29 : List PV := [a1_35]; let a1_28 : List PV := [a1_34]; let a1_27 : List PV := [a1_33]; let a1_26 : Nat := mdA a1_31; let a1_25 : Int := mdL a1_31; let a1_24 : List PV := [a1_37]; let a1_23 : List PV := [a1_36]; let a1_22 : Nat := z + 1; let a1_21 : Nat := a1_31.length; let a1_20 : PV := PV.v (Value.slice none 0 0); let a1_19 : Int := (↑a1_26 : Int); let a1_18 : Int := n3 a1_31 (0 : Int); let a1_17 : List PV := [pnil, pnil, pnil, pnil, pnil]; let a1_16 : Int := mk a1_31 a1_18 z; let a1_15 : Int := (axM a1_31 a1_18 (↑z : Int).toNat).high; let a1_14 : Int := (axM a1_31 a1_18 (↑z : Int).toNat).low; let a1_13 : PV := eDr a1_31 a1_16; let a1_12 : Int := nxK a1_21 a1_16; let a1_11 : O := O.arr 72 4 z fun (j : Nat) => D.p (eAx (axM a1_31 a1_18 j)); let a1_10 : Int := a1_31.getD a1_16.toNat (0 : Int); let a1_9 : PV := PV.agg [a0_37, eI a1_12]; let a1_8 : PV := PV.agg [a0_37, PV.v (Value.int IntKind.i64 a1_12)]; let a1_7 : O := O.box (D.p a1_8); let a1_6 : Int := nxK a1_21 a1_12; let a1_5 : Int := nxV a1_21 a1_16 a1_10 (8 : Int); let a1_4 : Int := nxV a1_21 a1_16 a1_10 (2 : Int); let a1_3 : List O := [a0_13, a1_7, a0_15, a1_11]; let a1_2 : Int := nxV a1_21 a1_12 (a1_31.getD a1_12.toNat (0 : Int)) (2 : Int); let a1_1 : List D := List.map (fun (x : Nat × D) => x.snd) [(0, D.p (PV.agg [PV.s (tgS (↑z : Int).toNat), PV.v (Value.int IntKind.i64 a1_14), a1_35, PV.v (Value.int IntKind.i64 a1_15)]))]; let a1_0 : Prop := a0_3 ∧ a1_3 = a1_3; z ≤ a1_26 → (decide ((↑z : Int) < a1_19) = true → (∀ (j : Nat), j < 2 → [PV.s ([(119 : UInt8), (103 : UInt8), (104 : UInt8), (116 : UInt8)] : List UInt8), PV.s ([(119 : UInt8), (100 : UInt8), (116 : UInt8), (104 : UInt8)] : List UInt8)].getD j default = PV.s (tgL.getD j [])) ∧ (0 : Int) ≤ (↑z : Int) ∧ (↑z : Int) < (↑2 : Int) ∧ tgL.getD (↑z : Int).toNat [] = tgS (↑z : Int).toNat ∧ Mut Tryz.prog 20 a1_13 a1_23 a1_9 (vint IntKind.i64 a1_4) ∧ IntKind.i64.wrap ((-100 : Int) * a1_4) = a1_14 ∧ Mut Tryz.prog 20 a1_8 a1_23 (PV.agg [a0_37, eI a1_6]) (vint IntKind.i64 a1_2) ∧ IntKind.i64.wrap ((100 : Int) + IntKind.i64.wrap ((100 : Int) * a1_2)) = a1_15 ∧ a1_22 * 40 ≤ 140737488355328 ∧ ∃ (y : Nat), y ≤ a1_26 ∧ a1_26 - y < a1_26 - z ∧ (∀ (i : Nat), let a3_0 : D := appF (fun (j : Nat) => D.p (eAx (axM a1_31 a1_18 j))) z (fun (j : Nat) => a1_1.getD j default) i; i < a1_22 → D.ren (numbered [0, 1, 2, 5] 0) a3_0 = some a3_0) ∧ IntKind.i64.wrap ((↑z : Int) + (1 : Int)) = (↑y : Int) ∧ D.p (PV.agg [a0_37, PV.v (Value.int IntKind.i64 a1_6)]) = D.p (eDr a1_31 (mk a1_31 a1_18 y)) ∧ D.agg (D.p (PV.s (mdF l).name) :: D.p (PV.v (Value.int IntKind.i64 (mdF l).ver)) :: D.own 3 :: D.p a1_20 :: a0_27) = a0_36 ∧ (a1_22 = y ∧ ∀ (j : Nat), j < a1_22 → appF (fun (j : Nat) => D.p (eAx (axM a1_31 a1_18 j))) z (fun (j : Nat) => a1_1.getD j default) j = D.p (eAx (axM a1_31 a1_18 j))) ∧ a0_1) ∧ (decide ((↑z : Int) < a1_19) = false → Mut Tryz.prog 20 a1_13 [a1_39] a1_9 (vint IntKind.i64 a1_5) ∧ IntKind.i64.wrap ((1 : Int) + a1_5) = a1_25 ∧ (∃ (x : Nat), (1 ≤ x ∧ x ≤ 9) ∧ (∀ (i : Nat), i < z → D.ren a0_35 (D.p (eAx (axM a1_31 a1_18 i))) = some (D.p (eAx (axM a1_31 a1_18 i)))) ∧ (∀ (i : Nat), i < 1 → D.ren a0_35 (a0_7.getD i default) = some (a0_7.getD i default)) ∧ Int.ofNat 1 = (↑x : Int) ∧ (1 = x ∧ ∀ (j : Nat), j < 1 → a0_7.getD j default = D.p (glE l a1_26 j)) ∧ a1_0) ∧ ∀ (z_1 : Nat), let a2_59 : D := D.p (eG1 (gl1 (l.getD (↑z_1 : Int).toNat []) a1_26 (↑z_1 : Int).toNat)); let a2_58 : PV := PV.s (gl1 (l.getD (↑z_1 : Int).toNat []) a1_26 (↑z_1 : Int).toNat).name; let a2_57 : List Tn := hpM (gl1 (l.getD (↑z_1 : Int).toNat []) a1_26 (↑z_1 : Int).toNat).hint; let a2_56 : Nat := (gl1 (l.getD (↑z_1 : Int).toNat []) a1_26 (↑z_1 : Int).toNat).parts.length; let a2_55 : D := D.p a2_58; let a2_54 : Nat := (gl1 (l.getD (↑z_1 : Int).toNat []) a1_26 (↑z_1 : Int).toNat).del.length; let a2_53 : Int := (↑(cnt (glOut (l.getD (↑z_1 : Int).toNat []) (↑z_1 : Int).toNat)) : Int); let a2_52 : List UInt8 := [UInt8.ofNat (48 + (↑z_1 : Int).toNat)]; let a2_51 : Nat := (gl1 (l.getD (↑z_1 : Int).toNat []) a1_26 (↑z_1 : Int).toNat).out.length; let a2_50 : Nat := a2_57.length; let a2_49 : PV := PV.v (Value.int IntKind.i64 (gl1 (l.getD (↑z_1 : Int).toNat []) a1_26 (↑z_1 : Int).toNat).adv); let a2_48 : Nat × Option Bool × D := (8, none, vint IntKind.i64 (↑z_1 : Int)); let a2_47 : Int := n2 (l.getD (↑z_1 : Int).toNat []) (glS1 (l.getD (↑z_1 : Int).toNat [])); let a2_46 : Nat := a2_52.length; let a2_45 : List O := [a1_11, O.arr 40 7 z_1 fun (j : Nat) => D.p (glE l a1_26 j)]; let a2_44 : List Tn := hpM (hintM (l.getD (↑z_1 : Int).toNat []) (glS1 (l.getD (↑z_1 : Int).toNat []))); let a2_43 : Nat × Option Bool × D := (8, none, D.p (PV.v (Value.int IntKind.i64 (↑z_1 : Int)))); let a2_42 : PV := eDr (l.getD (↑z_1 : Int).toNat []) (n1 (l.getD (↑z_1 : Int).toNat []) (0 : Int)); let a2_41 : PV := eDr (l.getD (↑z_1 : Int).toNat []) (glSt (l.getD (↑z_1 : Int).toNat []) a1_26 (↑z_1 : Int).toNat); let a2_40 : List O := a0_13 :: a1_7 :: a2_45; let a2_39 : D := D.p a2_41; let a2_38 : Int := nxK (l.getD (↑z_1 : Int).toNat []).length (n1 (l.getD (↑z_1 : Int).toNat []) (0 : Int)); let a2_37 : PV := PV.lst 3 (glM l a1_26 (↑z_1 : Int).toNat).parts.length fun (i : Nat) => eT ((glM l a1_26 (↑z_1 : Int).toNat).parts.getD i tn0); let a2_36 : Int := nxK (l.getD (↑z_1 : Int).toNat []).length (glSt (l.getD (↑z_1 : Int).toNat []) a1_26 (↑z_1 : Int).toNat); let a2_35 : PV := PV.lst 2 (glM l a1_26 (↑z_1 : Int).toNat).del.length fun (i : Nat) => eDl ((glM l a1_26 (↑z_1 : Int).toNat).del.getD i dl0); let a2_34 : List O := a0_13 :: a1_7 :: a0_15 :: a2_45; let a2_33 : PV := PV.lst 3 (hpM (glM l a1_26 (↑z_1 : Int).toNat).hint).length fun (i : Nat) => eT ((hpM (glM l a1_26 (↑z_1 : Int).toNat).hint).getD i tn0); let a2_32 : PV := PV.lst 1 (glM l a1_26 (↑z_1 : Int).toNat).out.length fun (i : Nat) => eC ((glM l a1_26 (↑z_1 : Int).toNat).out.getD i []); let a2_31 : PV := PV.lst 1 (glM l a1_26 (↑z_1 : Int).toNat).alts.length fun (i : Nat) => eI ((glM l a1_26 (↑z_1 : Int).toNat).alts.getD i (0 : Int)); let a2_30 : PV := PV.lst 1 (l.getD (↑z_1 : Int).toNat []).length fun (i : Nat) => eI ((l.getD (↑z_1 : Int).toNat []).getD i (0 : Int)); let a2_29 : Int := nxK (l.getD (↑z_1 : Int).toNat []).length a2_38; let a2_28 : Int := (8 : Int) * v1 (l.getD (↑z_1 : Int).toNat []) (n4 (l.getD (↑z_1 : Int).toNat []) (0 : Int)) (3 : Int); let a2_27 : Int := (1 : Int) + v1 (l.getD (↑z_1 : Int).toNat []) (n1 (l.getD (↑z_1 : Int).toNat []) (0 : Int)) (5 : Int); let a2_26 : Int := (4 : Int) * v1 (l.getD (↑z_1 : Int).toNat []) (n2 (l.getD (↑z_1 : Int).toNat []) (0 : Int)) (3 : Int); let a2_25 : Int := (40 : Int) + (4 : Int) * v1 (l.getD (↑z_1 : Int).toNat []) (0 : Int) (4 : Int); let a2_24 : Int := (1 : Int) + v1 (l.getD (↑z_1 : Int).toNat []) (n3 (l.getD (↑z_1 : Int).toNat []) (0 : Int)) (5 : Int); let a2_23 : Int := nxV (l.getD (↑z_1 : Int).toNat []).length (0 : Int) ((l.getD (↑z_1 : Int).toNat []).getD 0 (0 : Int)) (4 : Int); let a2_22 : PV := PV.v (Value.int IntKind.i64 a2_25); let a2_21 : PV := PV.lst 1 (glOut (l.getD (↑z_1 : Int).toNat []) (↑z_1 : Int).toNat).length fun (i : Nat) => eC ((glOut (l.getD (↑z_1 : Int).toNat []) (↑z_1 : Int).toNat).getD i []); let a2_20 : PV := PV.lst 3 a2_56 fun (i : Nat) => eT ((gl1 (l.getD (↑z_1 : Int).toNat []) a1_26 (↑z_1 : Int).toNat).parts.getD i tn0); let a2_19 : PV := PV.lst 2 a2_54 fun (i : Nat) => eDl ((gl1 (l.getD (↑z_1 : Int).toNat []) a1_26 (↑z_1 : Int).toNat).del.getD i dl0); let a2_18 : PV := PV.lst 3 a2_50 fun (i : Nat) => eT (a2_57.getD i tn0); let a2_17 : PV := PV.lst 1 a2_51 fun (i : Nat) => eC ((gl1 (l.getD (↑z_1 : Int).toNat []) a1_26 (↑z_1 : Int).toNat).out.getD i []); let a2_16 : List O := [a0_13, a1_7, a0_15, a1_11, O.arr 40 7 z_1 fun (j : Nat) => D.p (glE l a1_26 j), O.box (D.p (eDr (l.getD (↑z_1 : Int).toNat []) (0 : Int)))]; let a2_15 : Int := delsK (l.getD (↑z_1 : Int).toNat []) (cnt (glOut (l.getD (↑z_1 : Int).toNat []) (↑z_1 : Int).toNat)) a1_26 a2_47; let a2_14 : Int := nxK (l.getD (↑z_1 : Int).toNat []).length a2_29; let a2_13 : Int := nxV (l.getD (↑z_1 : Int).toNat []).length (n1 (l.getD (↑z_1 : Int).toNat []) (0 : Int)) ((l.getD (↑z_1 : Int).toNat []).getD (n1 (l.getD (↑z_1 : Int).toNat []) (0 : Int)).toNat (0 : Int)) (5 : Int); let a2_12 : Int := nxK (l.getD (↑z_1 : Int).toNat []).length a2_14; let a2_11 : Int := nxV (l.getD (↑z_1 : Int).toNat []).length (glSt (l.getD (↑z_1 : Int).toNat []) a1_26 (↑z_1 : Int).toNat) ((l.getD (↑z_1 : Int).toNat []).getD (glSt (l.getD (↑z_1 : Int).toNat []) a1_26 (↑z_1 : Int).toNat).toNat (0 : Int)) (3 : Int); let a2_10 : Int := nxV (l.getD (↑z_1 : Int).toNat []).length a2_38 ((l.getD (↑z_1 : Int).toNat []).getD a2_38.toNat (0 : Int)) (3 : Int); let a2_9 : List (Nat × Option Bool × D) := [a0_50, (11, none, D.p (PV.v (Value.int IntKind.i64 a2_11)))]; let a2_8 : List O := [a0_13, a1_7, a0_15, a1_11, O.arr 40 7 z_1 fun (j : Nat) => D.p (glE l a1_26 j), O.box (D.p (PV.agg [a2_30, PV.v (Value.int IntKind.i64 a2_36)]))]; let a2_7 : Int := nxV (l.getD (↑z_1 : Int).toNat []).length a2_29 ((l.getD (↑z_1 : Int).toNat []).getD a2_29.toNat (0 : Int)) (5 : Int); let a2_6 : D := D.agg (a2_55 :: D.p (eI (gl1 (l.getD (↑z_1 : Int).toNat []) a1_26 (↑z_1 : Int).toNat).adv) :: D.p (eO (gl1 (l.getD (↑z_1 : Int).toNat []) a1_26 (↑z_1 : Int).toNat).out) :: D.p (eDls (gl1 (l.getD (↑z_1 : Int).toNat []) a1_26 (↑z_1 : Int).toNat).del) :: D.p (eTs (gl1 (l.getD (↑z_1 : Int).toNat []) a1_26 (↑z_1 : Int).toNat).parts) :: D.p (eTs a2_57) :: a1_32); let a2_5 : Int := nxV (l.getD (↑z_1 : Int).toNat []).length a2_14 ((l.getD (↑z_1 : Int).toNat []).getD a2_14.toNat (0 : Int)) (3 : Int); let a2_4 : List D := List.map (fun (x : Nat × D) => x.snd) [(0, D.p (PV.agg [PV.s (glM l a1_26 (↑z_1 : Int).toNat).name, PV.v (Value.int IntKind.i64 (glM l a1_26 (↑z_1 : Int).toNat).adv), a2_32, a2_35, a2_37, a2_33, a2_31]))]; let a2_3 : Prop := (∀ (i : Nat), i < z → D.ren a0_29 (D.p (eAx (axM a1_31 a1_18 i))) = some (D.p (eAx (axM a1_31 a1_18 i)))) ∧ (∀ (i : Nat), i < z_1 → D.ren a0_29 (D.p (glE l a1_26 i)) = some (D.p (glE l a1_26 i))) ∧ [a0_55, a0_52, a0_51, a0_41, a0_44, a2_43] = [a0_55, a0_52, a0_51, a0_41, a0_44, a2_48] ∧ a2_16 = a2_16; let a2_2 : Prop := (∀ (i : Nat), i < z → D.ren a0_25 (D.p (eAx (axM a1_31 a1_18 i))) = some (D.p (eAx (axM a1_31 a1_18 i)))) ∧ (∀ (i : Nat), i < z_1 → D.ren a0_25 (D.p (glE l a1_26 i)) = some (D.p (glE l a1_26 i))) ∧ a2_39 = a2_39 ∧ a2_59 = a2_59 ∧ a0_55 :: a0_52 :: a0_51 :: a0_41 :: a0_44 :: a2_43 :: a0_20 = a0_55 :: a0_52 :: a0_51 :: a0_41 :: a0_44 :: a2_48 :: a0_20 ∧ a2_34 = a2_34; let a2_1 : Prop := a0_55 :: a0_52 :: a0_51 :: a0_41 :: a0_44 :: a2_43 :: a2_9 = a0_55 :: a0_52 :: a0_51 :: a0_41 :: a0_44 :: a2_48 :: a2_9 ∧ a2_8 = a2_8; let a2_0 : Prop := Mut Tryz.prog 20 (eDr (l.getD (↑z_1 : Int).toNat []) (0 : Int)) a1_28 (PV.agg [a2_30, eI (nxK (l.getD (↑z_1 : Int).toNat []).length (0 : Int))]) (vint IntKind.i64 a2_23) ∧ IntKind.i64.wrap ((40 : Int) + IntKind.i64.wrap ((4 : Int) * a2_23)) = a2_25 ∧ True ∧ (∀ (i : Nat), i < z → D.ren a0_25 (D.p (eAx (axM a1_31 a1_18 i))) = some (D.p (eAx (axM a1_31 a1_18 i)))) ∧ (∀ (i : Nat), i < z_1 → D.ren a0_25 (D.p (glE l a1_26 i)) = some (D.p (glE l a1_26 i))) ∧ D.p (PV.agg [a2_30, PV.v (Value.int IntKind.i64 (nxK (l.getD (↑z_1 : Int).toNat []).length (0 : Int)))]) = D.p a2_42 ∧ a0_55 :: a0_52 :: a0_51 :: a0_41 :: a0_44 :: a2_43 :: a0_38 = a0_55 :: a0_52 :: a0_51 :: a0_41 :: a0_44 :: a2_48 :: a0_38 ∧ [a0_13, a1_7, a0_15, a1_11, O.arr 40 7 z_1 fun (j : Nat) => D.p (glE l a1_26 j), O.box (D.p (PV.agg (PV.s (gnS (↑z_1 : Int).toNat) :: a2_22 :: a0_16)))] = [a0_13, a1_7, a0_15, a1_11, O.arr 40 7 z_1 fun (j : Nat) => D.p (glE l a1_26 j), O.box (D.p (PV.agg (PV.s (gnS (↑z_1 : Int).toNat) :: eI a2_25 :: a1_17)))]; 1 ≤ z_1 ∧ z_1 ≤ 9 → (decide ((↑z_1 : Int) < (9 : Int)) = true → ((decide ((↑l.length : Int) ≤ (↑z_1 : Int)) = true → ((l.getD (↑z_1 : Int).toNat []).length = 0 ∧ a1_35 = eI (0 : Int) ∧ True) ∧ a2_3) ∧ (decide ((↑l.length : Int) ≤ (↑z_1 : Int)) = false → (0 : Int) ≤ (↑z_1 : Int) ∧ (↑z_1 : Int) < (↑l.length : Int) ∧ (leP a2_30 a2_30 ∧ a1_35 = eI (0 : Int) ∧ True) ∧ a2_3)) ∧ ((∀ (j : Nat), j < 1 → [PV.v (Value.int IntKind.u8 (IntKind.u8.wrap (IntKind.i64.wrap ((48 : Int) + (↑z_1 : Int)))))].getD j default = PV.v (Value.int IntKind.u8 (↑(a2_52.getD j (0 : UInt8)).toNat : Int))) ∧ (1 = a2_46 ∧ ∀ (j : Nat), let a3_0 : PV := PV.v (Value.int IntKind.u8 (↑(a2_52.getD j (0 : UInt8)).toNat : Int)); j < 1 → a3_0 = a3_0) ∧ (↑(1 + a2_46) : Int) ≤ (9223372036854775807 : Int) ∧ ([(103 : UInt8)] : List UInt8) ++ a2_52 = gnS (↑z_1 : Int).toNat ∧ a2_0 ∧ a2_0) ∧ ((((↑z_1 : Int) == (6 : Int)) = true → Mut Tryz.prog 20 a2_42 a1_27 (PV.agg [a2_30, eI a2_38]) (vint IntKind.i64 a2_13) ∧ IntKind.i64.wrap ((1 : Int) + a2_13) = a2_27 ∧ Mut Tryz.prog 20 (PV.agg [a2_30, PV.v (Value.int IntKind.i64 a2_38)]) a1_24 (PV.agg [a2_30, eI a2_29]) (vint IntKind.i64 a2_10) ∧ IntKind.i64.wrap ((4 : Int) * a2_10) = a2_26 ∧ Mut Tryz.prog 20 (PV.agg [a2_30, PV.v (Value.int IntKind.i64 a2_29)]) a1_27 (PV.agg [a2_30, eI a2_14]) (vint IntKind.i64 a2_7) ∧ IntKind.i64.wrap ((1 : Int) + a2_7) = a2_24 ∧ Mut Tryz.prog 20 (PV.agg [a2_30, PV.v (Value.int IntKind.i64 a2_14)]) a1_24 (PV.agg [a2_30, eI a2_12]) (vint IntKind.i64 a2_5) ∧ IntKind.i64.wrap ((8 : Int) * a2_5) = a2_28 ∧ (∀ (j : Nat), j < 2 → [PV.agg (PV.v (Value.int IntKind.i64 a2_27) :: PV.v (Value.int IntKind.i64 a2_26) :: a1_29), PV.agg [PV.v (Value.int IntKind.i64 a2_24), a1_39, PV.v (Value.int IntKind.i64 a2_28)]].getD j default = eT ((glPts (l.getD (↑z_1 : Int).toNat [])).getD j tn0)) ∧ ((leP a2_30 a2_30 ∧ PV.v (Value.int IntKind.i64 a2_12) = eI (glSt (l.getD (↑z_1 : Int).toNat []) a1_26 (↑z_1 : Int).toNat) ∧ True) ∧ PV.s (gnS (↑z_1 : Int).toNat) = a2_58 ∧ a2_22 = eI (gl1 (l.getD (↑z_1 : Int).toNat []) a1_26 (↑z_1 : Int).toNat).adv ∧ a2_51 = 0 ∧ a2_54 = 0 ∧ ((glPts (l.getD (↑z_1 : Int).toNat [])).length = a2_56 ∧ ∀ (j : Nat), let a3_5 : List Int := l.getD (↑z_1 : Int).toNat []; let a3_4 : List Tn := glPts a3_5; let a3_3 : Tn := a3_4.getD j tn0; let a3_2 : Int × Int := a3_3.snd; let a3_1 : Tn := (gl1 a3_5 a1_26 (↑z_1 : Int).toNat).parts.getD j tn0; let a3_0 : Int × Int := a3_1.snd; j < a3_4.length → PV.v (Value.int IntKind.i64 a3_3.fst) = eI a3_1.fst ∧ PV.v (Value.int IntKind.i64 a3_2.fst) = eI a3_0.fst ∧ PV.v (Value.int IntKind.i64 a3_2.snd) = eI a3_0.snd ∧ True) ∧ a2_50 = 0 ∧ a1_20 = pnil ∧ True) ∧ a2_2) ∧ (((↑z_1 : Int) == (6 : Int)) = false → Mut Tryz.prog 21 a2_42 [PV.v (Value.int IntKind.i64 (↑z_1 : Int))] (eDr (l.getD (↑z_1 : Int).toNat []) (glS1 (l.getD (↑z_1 : Int).toNat []))) (D.p (eO (glOut (l.getD (↑z_1 : Int).toNat []) (↑z_1 : Int).toNat))) ∧ Mut Tryz.prog 22 (PV.agg [a2_30, PV.v (Value.int IntKind.i64 (glS1 (l.getD (↑z_1 : Int).toNat [])))]) [] (eDr (l.getD (↑z_1 : Int).toNat []) a2_47) (D.p (eTs a2_44)) ∧ Eng.Pure Tryz.prog 24 [a2_21] (vint IntKind.i64 a2_53) ∧ Mut Tryz.prog 23 (PV.agg [a2_30, PV.v (Value.int IntKind.i64 a2_47)]) [PV.v (Value.int IntKind.i64 a2_53), a0_59] (eDr (l.getD (↑z_1 : Int).toNat []) a2_15) (D.p (eDls (glDel (l.getD (↑z_1 : Int).toNat []) a1_26 (↑z_1 : Int).toNat))) ∧ ((leP a2_30 a2_30 ∧ PV.v (Value.int IntKind.i64 a2_15) = eI (glSt (l.getD (↑z_1 : Int).toNat []) a1_26 (↑z_1 : Int).toNat) ∧ True) ∧ PV.s (gnS (↑z_1 : Int).toNat) = a2_58 ∧ a2_22 = eI (gl1 (l.getD (↑z_1 : Int).toNat []) a1_26 (↑z_1 : Int).toNat).adv ∧ leP a2_21 a2_17 ∧ leP (PV.lst 2 (glDel (l.getD (↑z_1 : Int).toNat []) a1_26 (↑z_1 : Int).toNat).length fun (i : Nat) => eDl ((glDel (l.getD (↑z_1 : Int).toNat []) a1_26 (↑z_1 : Int).toNat).getD i dl0)) a2_19 ∧ a2_56 = 0 ∧ leP (PV.lst 3 a2_44.length fun (i : Nat) => eT (a2_44.getD i tn0)) a2_18 ∧ a1_20 = pnil ∧ True) ∧ a2_2)) ∧ Mut Tryz.prog 20 a2_41 a1_24 (PV.agg [a2_30, eI a2_36]) (vint IntKind.i64 a2_11) ∧ (∃ (x : Nat), x ≤ glA (l.getD (↑z_1 : Int).toNat []) a1_26 (↑z_1 : Int).toNat ∧ (∀ (i : Nat), i < z → D.ren a0_23 (D.p (eAx (axM a1_31 a1_18 i))) = some (D.p (eAx (axM a1_31 a1_18 i)))) ∧ (∀ (i : Nat), i < z_1 → D.ren a0_23 (D.p (glE l a1_26 i)) = some (D.p (glE l a1_26 i))) ∧ (∀ (i : Nat), let a4_0 : D := vint IntKind.i64 (alM (↑z_1 : Int).toNat i); i < 0 → D.ren a0_23 a4_0 = some a4_0) ∧ Int.ofNat 0 = (↑x : Int) ∧ a2_6 = a2_6 ∧ (0 = x ∧ ∀ (j : Nat), let a4_0 : D := vint IntKind.i64 (alM (↑z_1 : Int).toNat j); j < 0 → a4_0 = a4_0) ∧ a2_1) ∧ ∀ (z_2 : Nat), let a3_4 : Int := alM (↑z_1 : Int).toNat (↑z_2 : Int).toNat; let a3_3 : Nat := z_1 + 1; let a3_2 : Nat := z_2 + 1; let a3_1 : Nat := glA (l.getD (↑z_1 : Int).toNat []) a1_26 (↑z_1 : Int).toNat; let a3_0 : List D := List.map (fun (x : Nat × D) => x.snd) [(0, D.p (PV.v (Value.int IntKind.i64 a3_4)))]; z_2 ≤ a3_1 → (decide ((↑z_2 : Int) < a2_11) = true → ((8 : Int) = (0 : Int) → False) ∧ IntKind.i64.wrap ((1 : Int) + (IntKind.i64.wrap (IntKind.i64.wrap ((↑z_1 : Int) + IntKind.i64.wrap ((3 : Int) * (↑z_2 : Int))) + (1 : Int))).tmod (8 : Int)) = a3_4 ∧ a3_2 * 8 ≤ 140737488355328 ∧ ∃ (y : Nat), y ≤ a3_1 ∧ a3_1 - y < a3_1 - z_2 ∧ (∀ (i : Nat), i < z → D.ren a0_24 (D.p (eAx (axM a1_31 a1_18 i))) = some (D.p (eAx (axM a1_31 a1_18 i)))) ∧ (∀ (i : Nat), i < z_1 → D.ren a0_24 (D.p (glE l a1_26 i)) = some (D.p (glE l a1_26 i))) ∧ (∀ (i : Nat), let a5_0 : D := appF (fun (j : Nat) => vint IntKind.i64 (alM (↑z_1 : Int).toNat j)) z_2 (fun (j : Nat) => a3_0.getD j default) i; i < a3_2 → D.ren a0_24 a5_0 = some a5_0) ∧ IntKind.i64.wrap ((↑z_2 : Int) + (1 : Int)) = (↑y : Int) ∧ D.agg (a2_55 :: D.p a2_49 :: D.p a2_17 :: D.p a2_19 :: D.p a2_20 :: D.p a2_18 :: a1_32) = a2_6 ∧ (a3_2 = y ∧ ∀ (j : Nat), j < a3_2 → appF (fun (j : Nat) => vint IntKind.i64 (alM (↑z_1 : Int).toNat j)) z_2 (fun (j : Nat) => a3_0.getD j default) j = vint IntKind.i64 (alM (↑z_1 : Int).toNat j)) ∧ a2_1) ∧ (decide ((↑z_2 : Int) < a2_11) = false → (∀ (j : Nat), let a4_0 : D := vint IntKind.i64 (alM (↑z_1 : Int).toNat j); j < z_2 → a4_0 = D.p a4_0.unP) ∧ (a2_58 = PV.s (glM l a1_26 (↑z_1 : Int).toNat).name ∧ a2_49 = eI (glM l a1_26 (↑z_1 : Int).toNat).adv ∧ leP a2_17 a2_32 ∧ leP a2_19 a2_35 ∧ leP a2_20 a2_37 ∧ leP a2_18 a2_33 ∧ leP (PV.lst 1 z_2 fun (j : Nat) => (vint IntKind.i64 (alM (↑z_1 : Int).toNat j)).unP) a2_31 ∧ True) ∧ a3_3 * 144 ≤ 140737488355328 ∧ ∃ (y : Nat), (1 ≤ y ∧ y ≤ 9) ∧ 9 - y < 9 - z_1 ∧ (∀ (i : Nat), i < z → D.ren a0_34 (D.p (eAx (axM a1_31 a1_18 i))) = some (D.p (eAx (axM a1_31 a1_18 i)))) ∧ (∀ (i : Nat), let a5_0 : D := appF (fun (j : Nat) => D.p (glE l a1_26 j)) z_1 (fun (j : Nat) => a2_4.getD j default) i; i < a3_3 → D.ren a0_34 a5_0 = some a5_0) ∧ IntKind.i64.wrap ((↑z_1 : Int) + (1 : Int)) = (↑y : Int) ∧ (a3_3 = y ∧ ∀ (j : Nat), j < a3_3 → appF (fun (j : Nat) => D.p (glE l a1_26 j)) z_1 (fun (j : Nat) => a2_4.getD j default) j = D.p (glE l a1_26 j)) ∧ a1_0)) ∧ (decide ((↑z_1 : Int) < (9 : Int)) = false → (∃ (x : Nat), x ≤ 9 ∧ (∀ (i : Nat), i < z → D.ren a0_29 (D.p (eAx (axM a1_31 a1_18 i))) = some (D.p (eAx (axM a1_31 a1_18 i)))) ∧ (∀ (i : Nat), i < z_1 → D.ren a0_29 (D.p (glE l a1_26 i)) = some (D.p (glE l a1_26 i))) ∧ (∀ (i : Nat), let a4_0 : D := D.p (eR (chS i, chG a1_25 i)); i < 0 → D.ren a0_29 a4_0 = some a4_0) ∧ Int.ofNat 0 = (↑x : Int) ∧ a0_17 = a0_30 ∧ (0 = x ∧ ∀ (j : Nat), let a4_0 : D := D.p (eR (chS j, chG a1_25 j)); j < 0 → a4_0 = a4_0) ∧ a0_4 ∧ a2_40 = a2_40) ∧ ∀ (z_2 : Nat), let a3_1 : Nat := z_2 + 1; let a3_0 : List D := List.map (fun (x : Nat × D) => x.snd) [(0, D.p (PV.agg [PV.v (Value.int IntKind.i64 (chS (↑z_2 : Int).toNat)), PV.v (Value.int IntKind.i64 (chG a1_25 (↑z_2 : Int).toNat))]))]; z_2 ≤ 9 → (decide ((↑z_2 : Int) < (9 : Int)) = true → (0 : Int) ≤ (↑z_2 : Int) ∧ (↑z_2 : Int) < a1_38 ∧ IntKind.i64.wrap (↑(([(45 : UInt8), (48 : UInt8), (49 : UInt8), (97 : UInt8), (98 : UInt8), (99 : UInt8), (100 : UInt8), (101 : UInt8), (102 : UInt8)] : List UInt8).getD (↑z_2 : Int).toNat (0 : UInt8)).toNat : Int) = chS (↑z_2 : Int).toNat ∧ (∀ (j : Nat), j < 9 → [a1_39, PV.v (Value.int IntKind.i64 (6 : Int)), a1_33, PV.v (Value.int IntKind.i64 (1 : Int)), a1_36, a1_37, a1_34, PV.v (Value.int IntKind.i64 (7 : Int)), PV.v (Value.int IntKind.i64 a1_25)].getD j default = eI (chG a1_25 j)) ∧ (0 : Int) ≤ (↑z_2 : Int) ∧ (↑z_2 : Int) < a1_38 ∧ chG a1_25 (↑z_2 : Int).toNat = chG a1_25 (↑z_2 : Int).toNat ∧ a3_1 * 16 ≤ 140737488355328 ∧ ∃ (y : Nat), y ≤ 9 ∧ 9 - y < 9 - z_2 ∧ (∀ (i : Nat), i < z → D.ren a0_28 (D.p (eAx (axM a1_31 a1_18 i))) = some (D.p (eAx (axM a1_31 a1_18 i)))) ∧ (∀ (i : Nat), i < z_1 → D.ren a0_28 (D.p (glE l a1_26 i)) = some (D.p (glE l a1_26 i))) ∧ (∀ (i : Nat), let a5_0 : D := appF (fun (j : Nat) => D.p (eR (chS j, chG a1_25 j))) z_2 (fun (j : Nat) => a3_0.getD j default) i; i < a3_1 → D.ren a0_28 a5_0 = some a5_0) ∧ IntKind.i64.wrap ((↑z_2 : Int) + (1 : Int)) = (↑y : Int) ∧ a0_17 = a0_30 ∧ (a3_1 = y ∧ ∀ (j : Nat), j < a3_1 → appF (fun (j : Nat) => D.p (eR (chS j, chG a1_25 j))) z_2 (fun (j : Nat) => a3_0.getD j default) j = D.p (eR (chS j, chG a1_25 j))) ∧ a0_4 ∧ a2_40 = a2_40) ∧ (decide ((↑z_2 : Int) < (9 : Int)) = false → (∀ (j : Nat), j < z → D.p (eAx (axM a1_31 a1_18 j)) = D.p (D.p (eAx (axM a1_31 a1_18 j))).unP) ∧ (∀ (j : Nat), j < z_1 → D.p (glE l a1_26 j) = D.p (D.p (glE l a1_26 j)).unP) ∧ (∀ (j : Nat), let a4_0 : D := D.p (eR (chS j, chG a1_25 j)); j < z_2 → a4_0 = D.p a4_0.unP) ∧ (PV.s (mdF l).name = PV.s (mdF l).name ∧ PV.v (Value.int IntKind.i64 (mdF l).ver) = eI (mdF l).ver ∧ leP (PV.lst 4 z fun (j : Nat) => (D.p (eAx (axM a1_31 a1_18 j))).unP) a0_57 ∧ leP (PV.lst 7 z_1 fun (j : Nat) => (D.p (glE l a1_26 j)).unP) a0_56 ∧ leP (PV.lst 2 z_2 fun (j : Nat) => (D.p (eR (chS j, chG a1_25 j))).unP) a0_42 ∧ a1_20 = pnil ∧ a1_20 = pnil ∧ True) ∧ (decide ((↑l.length : Int) ≤ (9 : Int)) = true → Mut Tryz.prog 25 (PV.agg (a1_20 :: a1_29)) a0_10 a0_47 (D.p (eFn (madeS l))) ∧ K a0_8) ∧ (decide ((↑l.length : Int) ≤ (9 : Int)) = false → (0 : Int) ≤ (9 : Int) ∧ (9 : Int) < (↑l.length : Int) ∧ Mut Tryz.prog 25 (PV.agg ((PV.lst 1 a1_30.length fun (i : Nat) => eI (a1_30.getD i (0 : Int))) :: a1_29)) a0_10 a0_47 (D.p (eFn (madeS l))) ∧ K a0_8))))) (by kernel_rfl) ?_
 simp only [Int.toNat_natCast, decide_eq_true_eq, decide_eq_false_iff_not, and_true, true_and]
 have hnE : ∀ (z : Nat) (s n : Int), 0 ≤ s ∧ s ≤ ((l.getD z []).length : Int) → 0 < n → n < 2 ^ 40 → Mut Tryz.prog 20 (eDr (l.getD z []) s) [eI n] (eDr (l.getD z []) (n1 (l.getD z []) s)) (vint .i64 (v1 (l.getD z []) s n)) := fun z s n h h1 h2 => next_ok _ s n h (hc z) h1 h2
 have bE : ∀ z : Nat, (0 : Int) ≤ 0 ∧ (0 : Int) ≤ ((l.getD z []).length : Int) := fun z => ⟨by omega, by omega⟩
 have hge : ∀ z : Nat, l.length ≤ z → (l.getD z []).length = 0 := fun z h => by rw [List.getD_eq_getElem?_getD, List.getElem?_eq_none h]; rfl
 have b0 := bE 0
 have w0 := v1b (l.getD 0 []) 0 3 (by omega)
 have w5 := v1b (l.getD 0 []) (n2 (l.getD 0 []) 0) 5 (by omega)
 have hA2 : mdA (l.getD 0 []) ≤ 2 := by unfold mdA axC; split <;> (try split) <;> omega
 have b3 := nxb (nxb (nxb b0))
 refine ⟨⟨fun h => ⟨hge 0 (by omega), rfl⟩, fun h => ⟨by omega, by omega, leP_refl _, rfl⟩⟩, ⟨?_, ⟨hnE 0 0 3 b0 (by omega) (by omega), w0.1, w0.2, rfl, ⟨hnE 0 _ 4 (nxb b0) (by omega) (by omega), rfl, rfl⟩, ⟨hnE 0 _ 4 (nxb b0) (by omega) (by omega), rfl, rfl⟩⟩, hnE 0 0 3 b0 (by omega) (by omega), w0.1, w0.2, rfl, hnE 0 _ 4 (nxb b0) (by omega) (by omega), rfl, rfl⟩, ?_, hnE 0 _ 5 (nxb (nxb b0)) (by omega) (by omega), w5.1, w5.2, ?_, ⟨0, by omega, fun i h => by omega, rfl, rfl, ⟨rfl, fun j h => by omega⟩⟩, fun z hz => ⟨fun h1 => ?_, fun h1 => ?_⟩⟩
 ·intro j hj; rcases j with _ | _ | _ | j <;> first | rfl | (exfalso; omega)
 ·intro j hj; rcases j with _ | _ | _ | _ | _ | j <;> first | rfl | (exfalso; omega)
 ·show ([1, 0, 1, 1, 2] : List Int).getD (v1 (l.getD 0 []) (n2 (l.getD 0 []) 0) 5).toNat 0 = ((axC (v1 (l.getD 0 []) (n2 (l.getD 0 []) 0) 5) : Nat) : Int)
  revert w5
  generalize v1 (l.getD 0 []) (n2 (l.getD 0 []) 0) 5 = v
  intro w5
  rcases (by omega : v = 0 ∨ v = 1 ∨ v = 2 ∨ v = 3 ∨ v = 4) with rfl | rfl | rfl | rfl | rfl <;> rfl
 ·have bt := mkb b3 z
  have r1 := v1b (l.getD 0 []) (mk (l.getD 0 []) (n3 (l.getD 0 []) 0) z) 2 (by omega)
  have r2 := v1b (l.getD 0 []) (n1 (l.getD 0 []) (mk (l.getD 0 []) (n3 (l.getD 0 []) 0) z)) 2 (by omega)
  refine ⟨?_, by omega, by omega, rfl, hnE 0 _ 2 bt (by omega) (by omega), wr64 (by show _ ≤ -100 * v1 _ _ 2; omega) (by show -100 * v1 _ _ 2 ≤ _; omega) rfl, hnE 0 _ 2 (nxb bt) (by omega) (by omega), ?_, by omega, z + 1, by omega, by omega, fun i _ => app_ren (fun _ => rfl) (fun i => one_ren rfl i) i, wr64 (by omega) (by omega) (by omega), rfl, rfl, ⟨rfl, fun j hj => app_one (n := z) rfl hj⟩⟩
  ·intro j hj; rcases j with _ | _ | j <;> first | rfl | (exfalso; omega)
  ·show IntKind.wrap .i64 (100 + IntKind.wrap .i64 (100 * v1 (l.getD 0 []) (n1 (l.getD 0 []) (mk (l.getD 0 []) (n3 (l.getD 0 []) 0) z)) 2)) = _
   rw [show IntKind.wrap .i64 (100 * v1 (l.getD 0 []) (n1 (l.getD 0 []) (mk (l.getD 0 []) (n3 (l.getD 0 []) 0) z)) 2) = 100 * v1 (l.getD 0 []) (n1 (l.getD 0 []) (mk (l.getD 0 []) (n3 (l.getD 0 []) 0) z)) 2 from wr64 (by omega) (by omega) rfl]
   exact wr64 (by omega) (by omega) rfl
 ·have : z = mdA (l.getD 0 []) := by omega
  subst this
  have bt := mkb b3 (mdA (l.getD 0 []))
  have r1 := v1b (l.getD 0 []) (mk (l.getD 0 []) (n3 (l.getD 0 []) 0) (mdA (l.getD 0 []))) 8 (by omega)
  refine ⟨hnE 0 _ 8 bt (by omega) (by omega), wr64 (by show _ ≤ 1 + v1 _ _ 8; omega) (by show 1 + v1 _ _ 8 ≤ _; omega) rfl, ⟨1, ⟨by omega, by omega⟩, fun _ _ => rfl, ?_, rfl, ⟨rfl, ?_⟩⟩, fun k hk => ⟨fun h2 => ?_, fun h2 => ?_⟩⟩
  ·intro i hi; rcases i with _ | i
   ·rfl
   ·exfalso; omega
  ·intro i hi; rcases i with _ | i
   ·rfl
   ·exfalso; omega
  ·have hE := hc k
   have hlE := hnE k
   have bk := bE k
   have bs1 : 0 ≤ glS1 (l.getD k []) ∧ glS1 (l.getD k []) ≤ ((l.getD k []).length : Int) := outKb (nxb bk)
   have bst : 0 ≤ glSt (l.getD k []) (mdA (l.getD 0 [])) k ∧ glSt (l.getD k []) (mdA (l.getD 0 [])) k ≤ ((l.getD k []).length : Int) := by
    unfold glSt; split
    ·exact nxb (nxb (nxb (nxb (nxb bk))))
    ·exact dkb (nxb (nxb (nxb bs1))) _
   have hq : ∀ s : Int, 0 ≤ s → s < 10 → IntKind.wrap .i64 s = s := fun s h1 h2 => wr64 (by omega) (by omega) rfl
   have hu : (([UInt8.ofNat (48 + k)].getD 0 0).toNat : Int) = 48 + k := by
    show (((48 + k) % 256 : Nat) : Int) = _
    omega
   have va := v1b (l.getD k []) 0 4 (by omega)
   have e40 : IntKind.wrap .i64 (40 + IntKind.wrap .i64 (4 * v1 (l.getD k []) 0 4)) = 40 + 4 * v1 (l.getD k []) 0 4 := by
    rw [show IntKind.wrap .i64 (4 * v1 (l.getD k []) 0 4) = 4 * v1 (l.getD k []) 0 4 from wr64 (by omega) (by omega) rfl]
    exact wr64 (by omega) (by omega) rfl
   refine ⟨⟨fun h => ⟨⟨hge k (by omega), rfl⟩, fun _ _ => rfl, fun _ _ => rfl⟩, fun h => ⟨by omega, by omega, ⟨leP_refl _, rfl⟩, fun _ _ => rfl, fun _ _ => rfl⟩⟩, ⟨?_, ⟨rfl, fun j _ => trivial⟩, by show ((1 + 1 : Nat) : Int) ≤ _; omega, rfl, ?_⟩, ⟨fun h6 => ?_, fun h6 => ?_⟩, ?_, ?_, fun y hy => ⟨fun h3 => ?_, fun h3 => ?_⟩⟩
   ·intro j hj
    rcases j with _ | j
    ·have hk' := hk.1
     rcases (by omega : k = 1 ∨ k = 2 ∨ k = 3 ∨ k = 4 ∨ k = 5 ∨ k = 6 ∨ k = 7 ∨ k = 8) with rfl | rfl | rfl | rfl | rfl | rfl | rfl | rfl <;> exact congrArg (fun q => PV.v (Value.int .u8 q)) (by decide)
    ·exfalso; omega
   ·exact ⟨⟨hlE 0 4 bk (by omega) (by omega), e40, fun _ _ => rfl, fun _ _ => rfl, rfl, rfl⟩, hlE 0 4 bk (by omega) (by omega), e40, fun _ _ => rfl, fun _ _ => rfl, rfl, rfl⟩
   ·have : k = 6 := by have := eq_of_beq h6; omega
    subst this
    have r1 := v1b (l.getD 6 []) (n1 (l.getD 6 []) 0) 5 (by omega)
    have r2 := v1b (l.getD 6 []) (n2 (l.getD 6 []) 0) 3 (by omega)
    have r3 := v1b (l.getD 6 []) (n3 (l.getD 6 []) 0) 5 (by omega)
    have r4 := v1b (l.getD 6 []) (n4 (l.getD 6 []) 0) 3 (by omega)
    refine ⟨hlE _ 5 (nxb bk) (by omega) (by omega), wr64 (by show _ ≤ 1 + v1 (l.getD 6 []) (n1 (l.getD 6 []) 0) 5; omega) (by show 1 + v1 (l.getD 6 []) (n1 (l.getD 6 []) 0) 5 ≤ _; omega) rfl,
     hlE _ 3 (nxb (nxb bk)) (by omega) (by omega), wr64 (by show _ ≤ 4 * v1 (l.getD 6 []) (n2 (l.getD 6 []) 0) 3; omega) (by show 4 * v1 (l.getD 6 []) (n2 (l.getD 6 []) 0) 3 ≤ _; omega) rfl,
     hlE _ 5 (nxb (nxb (nxb bk))) (by omega) (by omega), wr64 (by show _ ≤ 1 + v1 (l.getD 6 []) (n3 (l.getD 6 []) 0) 5; omega) (by show 1 + v1 (l.getD 6 []) (n3 (l.getD 6 []) 0) 5 ≤ _; omega) rfl,
     hlE _ 3 (nxb (nxb (nxb (nxb bk)))) (by omega) (by omega), wr64 (by show _ ≤ 8 * v1 (l.getD 6 []) (n4 (l.getD 6 []) 0) 3; omega) (by show 8 * v1 (l.getD 6 []) (n4 (l.getD 6 []) 0) 3 ≤ _; omega) rfl, ?_, ⟨⟨leP_refl _, rfl⟩, rfl, rfl, rfl, rfl, ⟨rfl, fun j _ => ⟨rfl, rfl, rfl⟩⟩, rfl, rfl⟩, fun _ _ => rfl, fun _ _ => rfl⟩
    intro j hj; rcases j with _ | _ | j <;> first | rfl | (exfalso; omega)
   ·have hk6 : k ≠ 6 := fun e => by subst e; simp at h6
    have hg : gl1 (l.getD k []) (mdA (l.getD 0 [])) k = ⟨gnS k, 40 + 4 * v1 (l.getD k []) 0 4, glOut (l.getD k []) k, glDel (l.getD k []) (mdA (l.getD 0 [])) k, [], hintM (l.getD k []) (glS1 (l.getD k [])), []⟩ := if_neg hk6
    have hst : glSt (l.getD k []) (mdA (l.getD 0 [])) k = delsK (l.getD k []) (cnt (glOut (l.getD k []) k)) (mdA (l.getD 0 [])) (n2 (l.getD k []) (glS1 (l.getD k []))) := if_neg hk6
    have hol := outM_len (l.getD k []) (n1 (l.getD k []) 0) k
    rw [hg, hst]
    exact ⟨outm_ok (l.getD k []) _ k (nxb bk) hE ⟨by omega, by omega⟩, hint_ok (l.getD k []) _ bs1 hE, rcount_ok _ (Nat.le_trans hol.1 (by omega)) (Nat.le_trans hol.2 (by omega)), dels_ok (l.getD k []) _ _ _ (nxb (nxb bs1)) hE (Nat.lt_of_le_of_lt hol.2 (by omega)) (by omega), ⟨⟨leP_refl _, rfl⟩, rfl, rfl, leP_refl _, leP_refl _, rfl, leP_refl _, rfl⟩, fun _ _ => rfl, fun _ _ => rfl⟩
   ·exact hlE _ 3 bst (by omega) (by omega)
   ·exact ⟨0, by omega, fun _ _ => rfl, fun _ _ => rfl, fun i h => by omega, rfl, rfl, fun j h => trivial⟩
   ·have hv := v1b (l.getD k []) (glSt (l.getD k []) (mdA (l.getD 0 [])) k) 3 (by omega)
    have hva : ((glA (l.getD k []) (mdA (l.getD 0 [])) k : Nat) : Int) = v1 (l.getD k []) (glSt (l.getD k []) (mdA (l.getD 0 [])) k) 3 := by unfold glA; omega
    have h3' : (y : Int) < v1 (l.getD k []) (glSt (l.getD k []) (mdA (l.getD 0 [])) k) 3 := h3
    refine ⟨by omega, ?_, by omega, y + 1, by omega, by omega, fun _ _ => rfl, fun _ _ => rfl, fun i _ => app_ren (fun _ => rfl) (fun i => one_ren rfl i) i, wr64 (by omega) (by omega) (by omega), rfl, rfl, fun j hj => app_one (n := y) rfl hj⟩
    rw [show IntKind.wrap .i64 (3 * (y : Int)) = 3 * y from wr64 (by omega) (by omega) rfl, show IntKind.wrap .i64 ((k : Int) + 3 * y) = k + 3 * y from wr64 (by omega) (by omega) rfl, show IntKind.wrap .i64 ((k : Int) + 3 * y + 1) = k + 3 * y + 1 from wr64 (by omega) (by omega) rfl, Int.tmod_eq_emod_of_nonneg (by omega)]
    exact wr64 (by omega) (by omega) rfl
   ·have hv := v1b (l.getD k []) (glSt (l.getD k []) (mdA (l.getD 0 [])) k) 3 (by omega)
    have hva : ((glA (l.getD k []) (mdA (l.getD 0 [])) k : Nat) : Int) = v1 (l.getD k []) (glSt (l.getD k []) (mdA (l.getD 0 [])) k) 3 := by unfold glA; omega
    have h3' : ¬ (y : Int) < v1 (l.getD k []) (glSt (l.getD k []) (mdA (l.getD 0 [])) k) 3 := h3
    have hy2 : y = glA (l.getD k []) (mdA (l.getD 0 [])) k := by omega
    have hgm : glM l (mdA (l.getD 0 [])) k = { gl1 (l.getD k []) (mdA (l.getD 0 [])) k with alts := (List.range (glA (l.getD k []) (mdA (l.getD 0 [])) k)).map (alM k) } := if_neg (by omega)
    refine ⟨fun _ _ => rfl, ⟨by rw [hgm], by rw [hgm]; rfl, by rw [hgm]; exact leP_refl _, by rw [hgm]; exact leP_refl _, by rw [hgm]; exact leP_refl _, by rw [hgm]; exact leP_refl _, ?_⟩, by omega, k + 1, ⟨by omega, by omega⟩, by omega, fun _ _ => rfl, fun i _ => app_ren (fun _ => rfl) (fun i => one_ren rfl i) i, wr64 (by omega) (by omega) (by omega), rfl, fun j hj => app_one (n := k) (congrArg D.p (if_neg (show ¬ k = 0 by omega)).symm) hj⟩
    rw [hgm, hy2]
    exact ⟨(len_rm _ _).symm, fun j hj => leP_eq (congrArg eI (getD_rm hj).symm)⟩
  ·have : k = 9 := by omega
   subst this
   refine ⟨⟨0, by omega, fun _ _ => rfl, fun _ _ => rfl, fun i h => by omega, rfl, rfl, ⟨rfl, fun j h => by omega⟩⟩, fun y hy => ⟨fun h3 => ?_, fun h3 => ?_⟩⟩
   ·refine ⟨by omega, by omega, ?_, ?_, by omega, by omega, by omega, y + 1, by omega, by omega, fun _ _ => rfl, fun _ _ => rfl, fun i _ => app_ren (fun _ => rfl) (fun i => one_ren rfl i) i, wr64 (by omega) (by omega) (by omega), rfl, ⟨rfl, fun j hj => app_one (n := y) rfl hj⟩⟩
    ·rcases (by omega : y = 0 ∨ y = 1 ∨ y = 2 ∨ y = 3 ∨ y = 4 ∨ y = 5 ∨ y = 6 ∨ y = 7 ∨ y = 8) with rfl | rfl | rfl | rfl | rfl | rfl | rfl | rfl | rfl <;> decide
    ·intro j hj
     rcases (by omega : j = 0 ∨ j = 1 ∨ j = 2 ∨ j = 3 ∨ j = 4 ∨ j = 5 ∨ j = 6 ∨ j = 7 ∨ j = 8) with rfl | rfl | rfl | rfl | rfl | rfl | rfl | rfl | rfl <;> rfl
   ·have hy9 : y = 9 := by omega
    subst hy9
    have ht := tab_ok (mdF l) (l.getD 9 []) 0 (bE 9) (hc 9)
    refine ⟨fun _ _ => rfl, fun _ _ => rfl, fun _ _ => rfl, ⟨rfl, ⟨(len_rm _ _).symm, fun j hj => leP_eq (congrArg eAx (show axM (l.getD 0 []) (n3 (l.getD 0 []) 0) j = (mdF l).axes.getD j ax0 from (getD_rm hj).symm))⟩, ⟨(len_rm _ _).symm, fun j hj => ?_⟩, ⟨(len_rm _ _).symm, fun j hj => leP_eq (congrArg eR (show (chS j, chG (mdL (l.getD 0 [])) j) = (mdF l).chars.getD j (0, 0) from (getD_rm (f := fun z => (chS z, chG (mdL (l.getD 0 [])) z)) hj).symm))⟩, rfl, rfl⟩, fun h => ⟨mut_le ht ⟨hge 9 (by omega), rfl, trivial⟩, leP_refl _⟩, fun h => ⟨by omega, by omega, ht, leP_refl _⟩⟩
    have hg : (mdF l).gls.getD j gl0 = glM l (mdA (l.getD 0 [])) j := getD_rm hj
    show leP (glE l (mdA (l.getD 0 [])) j) (eGl ((mdF l).gls.getD j gl0))
    rw [hg]
    rcases j with _ | j
    ·exact ⟨rfl, rfl, rfl, rfl, rfl, rfl, rfl, trivial⟩
    ·exact leP_eq (if_neg (by omega))
end Go.Proofs.YtekhlnihpfkkkaaGreatDoor
namespace Go.Proofs.YtekhlnihpfkkkaaGreatDoor
open Go.Eng
def tuS (a b : Pt) (x y : Int) : Bool := bif (bif decide (a.2.1 ≤ y) then decide (y < b.2.1) else false) then decide (IntKind.wrap .i64 (IntKind.wrap .i64 (b.1 - a.1) * IntKind.wrap .i64 (y - a.2.1)) < IntKind.wrap .i64 (IntKind.wrap .i64 (x - a.1) * IntKind.wrap .i64 (b.2.1 - a.2.1))) else false
def turnS (a b : Pt) (x y : Int) : Int := bif tuS a b x y then 1 else bif tuS b a x y then -1 else 0
def hTur (a b : Pt) (x y : Int) : FuncId → FH := fun _ => { sp := [9, 43], reg := fun r => bif Nat.beq r 1 then { sh := none, g := 0, hs := [(32, vbool (tuS a b x y))] } else bif Nat.beq r 3 then { sh := none, g := 0, hs := [(32, vbool (tuS b a x y))] } else { sh := none, g := 0 } }
def wiS (c : List Pt) (x y n : Int) : Nat → Int
 | 0 => n
 | i + 1 => IntKind.wrap .i64 (wiS c x y n i + turnS (c.getD ((i + c.length - 1) % c.length) pt0) (c.getD i pt0) x y)
def wnS (o : List (List Pt)) (x y : Int) : Nat → Int
 | 0 => 0
 | k + 1 => wiS (o.getD k []) x y (wnS o x y k) (o.getD k []).length
def windS (o : List (List Pt)) (x y : Int) : Int := wnS o x y o.length
def lWin (o : List (List Pt)) (x y : Int) : Nat → Env → List O → Option LH := fun r E H =>
 bif Nat.beq r 3 then some (mkLH E H [0, 1, 2, 12, 13] [] (fun z : Nat => [(14, none, vint .i64 z), (7, none, vint .i64 (wnS o x y z))]) (fun _ => []) (fun z => z ≤ o.length) (fun z => o.length - z))
 else match E.get 14 with
 | some (_, .p (.v (.int _ k))) => some (mkLH E H [0, 1, 2, 9, 12, 13, 14, 18, 19] [] (fun z : Nat => [(20, none, vint .i64 z), (7, none, vint .i64 (wiS (o.getD k.toNat []) x y (wnS o x y k.toNat) z))]) (fun _ => []) (fun z => z ≤ (o.getD k.toNat []).length) (fun z => (o.getD k.toNat []).length - z))
 | _ => none
def pcTu : FuncId → List PV → Option D := fun f ar => bif Nat.beq f 110 then (match ar with
 | [.agg [.v (.int _ a), .v (.int _ b), .v (.bool c)], .agg [.v (.int _ a'), .v (.int _ b'), .v (.bool c')], .v (.int _ x), .v (.int _ y)] => some (vint .i64 (turnS (a, b, c) (a', b', c') x y))
 | _ => none) else none
def reWin (o : List (List Pt)) : Env → Nat → RH → RH := fun E r R => bif Nat.beq r 8 then (match E.get 14, E.get 10 with
 | some (_, .p (.v (.int _ k))), some (_, .p (.v (.int _ i))) => { R with hs := [(9, vint .i64 (((i.toNat + (o.getD k.toNat []).length - 1) % (o.getD k.toNat []).length : Nat) : Int))] }
 | _, _ => R) else R
def hWin (o : List (List Pt)) (x y : Int) : FuncId → FH := fun _ => { sp := [15, 21], lp := lWin o x y, pc := pcTu, re := reWin o, reg := fun _ => { sh := none, g := 0 } }
def inS (n : Int) : Bool := bif decide (-1073741824 ≤ n) then decide (n ≤ 1073741824) else false
def cvX (u x : Int) (k : Nat) : Int := IntKind.wrap .i64 (IntKind.wrap .i64 (u * x) + IntKind.wrap .i64 (Int.tdiv (IntKind.wrap .i64 ((1 + 2 * ((k : Int) % 2)) * u)) 4))
def cvY (u y : Int) (k : Nat) : Int := IntKind.wrap .i64 (IntKind.wrap .i64 (u * y) + IntKind.wrap .i64 (Int.tdiv (IntKind.wrap .i64 ((1 + 2 * ((k : Int) / 2)) * u)) 4))
def covQ (o : List (List Pt)) (u x y : Int) (k : Nat) : Bool := bif (bif inS (cvX u x k) then inS (cvY u y k) else false) then windS o (cvX u x k) (cvY u y k) != 0 else false
def cvS (o : List (List Pt)) (u x y : Int) : Nat → Int
 | 0 => 0
 | k + 1 => bif covQ o u x y k then IntKind.wrap .i64 (cvS o u x y k + 1) else cvS o u x y k
def lCov (o : List (List Pt)) (u x y : Int) : Nat → Env → List O → Option LH := fun _ E H =>
 some (mkLH E H [0, 1, 2, 3] [] (fun z : Nat => [(13, none, vint .i64 z), (9, none, vint .i64 (cvS o u x y z))]) (fun _ => []) (fun z => z ≤ 4) (fun z => 4 - z))
def pcCv (o : List (List Pt)) : FuncId → List PV → Option D := fun f ar => bif Nat.beq f 88 then (match ar with
 | [.v (.int _ n)] => some (vbool (inS n))
 | _ => none) else bif Nat.beq f 90 then (match ar with
 | [_, .v (.int _ a), .v (.int _ b)] => some (vint .i64 (windS o a b))
 | _ => none) else none
def reCov (o : List (List Pt)) (u x y : Int) : Env → Nat → RH → RH := fun E r R => bif Nat.beq r 5 then (match E.get 10 with
 | some (_, .p (.v (.int _ k))) => { R with hs := [(10, vint .i64 (cvX u x k.toNat)), (21, vint .i64 (cvY u y k.toNat))] }
 | _ => R) else R
def hCov (o : List (List Pt)) (u x y : Int) : FuncId → FH := fun _ => { sp := [14, 50], lp := lCov o u x y, pc := pcCv o, re := reCov o u x y, reg := fun _ => { sh := none, g := 0 } }
def hIn (n : Int) : FuncId → FH := fun _ => { sp := [], reg := fun r => bif Nat.beq r 1 then { sh := none, g := 0, hs := [(5, vbool (inS n))] } else { sh := none, g := 0 } }
def ovS (n u : Int) : Int := if n < 0 then IntKind.wrap .i64 (0 - IntKind.wrap .i64 (Int.tdiv (IntKind.wrap .i64 (IntKind.wrap .i64 (u - 1) - n)) u)) else IntKind.wrap .i64 (Int.tdiv n u)
def hOv : FuncId → FH := fun _ => { sp := [6], reg := fun _ => { sh := none, g := 0 } }
set_option maxRecDepth 100000 in
theorem rin_ok (n : Int) : Pure Tryz.prog 88 [eI n] (vbool (inS n)) := by
 let K : D → Prop := fun d => endL (vbool (inS n)) d []
 refine pure_byL 20 (hIn n) (p :=
  let a0_0 : Int := (-1073741824 : Int); (decide (a0_0 ≤ n) = true → decide (a0_0 ≤ n) = true) ∧ (decide (a0_0 ≤ n) = true → decide (a0_0 ≤ n) = true) ∧ (bif decide (a0_0 ≤ n) then decide (n ≤ (1073741824 : Int)) else false) = inS n ∧ K (D.p (PV.v (Value.bool (inS n))))) (by kernel_rfl) ?_
 exact ⟨fun h => h, fun h => h, rfl, leP_refl _⟩
set_option maxRecDepth 100000 in
theorem turn_ok (a b : Pt) (x y : Int) : Pure Tryz.prog 110 [ePt a, ePt b, eI x, eI y] (vint .i64 (turnS a b x y)) := by
 let K : D → Prop := fun d => endL (vint .i64 (turnS a b x y)) d []
 refine pure_byL 20 (hTur a b x y) (p :=
  let a0_5 : Int := a.snd.fst; let a0_4 : Int := b.snd.fst; let a0_3 : Int := IntKind.i64.wrap (IntKind.i64.wrap (b.fst - a.fst) * IntKind.i64.wrap (y - a0_5)); let a0_2 : Int := IntKind.i64.wrap (IntKind.i64.wrap (a.fst - b.fst) * IntKind.i64.wrap (y - a0_4)); let a0_1 : Int := IntKind.i64.wrap (IntKind.i64.wrap (x - a.fst) * IntKind.i64.wrap (a0_4 - a0_5)); let a0_0 : Int := IntKind.i64.wrap (IntKind.i64.wrap (x - b.fst) * IntKind.i64.wrap (a0_5 - a0_4)); (decide (a0_5 ≤ y) = true → decide (a0_5 ≤ y) = true) ∧ (decide (a0_5 ≤ y) = true → decide (a0_5 ≤ y) = true) ∧ (decide (a0_5 ≤ y) = true → decide (a0_5 ≤ y) = true) ∧ (decide (a0_5 ≤ y) = true → decide (a0_5 ≤ y) = true) ∧ ((bif decide (a0_5 ≤ y) then decide (y < a0_4) else false) = true → (bif decide (a0_5 ≤ y) then decide (y < a0_4) else false) = true) ∧ ((bif decide (a0_5 ≤ y) then decide (y < a0_4) else false) = true → (bif decide (a0_5 ≤ y) then decide (y < a0_4) else false) = true) ∧ ((bif decide (a0_5 ≤ y) then decide (y < a0_4) else false) = true → (bif decide (a0_5 ≤ y) then decide (y < a0_4) else false) = true) ∧ ((bif decide (a0_5 ≤ y) then decide (y < a0_4) else false) = true → (bif decide (a0_5 ≤ y) then decide (y < a0_4) else false) = true) ∧ ((bif decide (a0_5 ≤ y) then decide (y < a0_4) else false) = true → (bif decide (a0_5 ≤ y) then decide (y < a0_4) else false) = true) ∧ ((bif decide (a0_5 ≤ y) then decide (y < a0_4) else false) = true → (bif decide (a0_5 ≤ y) then decide (y < a0_4) else false) = true) ∧ ((bif decide (a0_5 ≤ y) then decide (y < a0_4) else false) = true → (bif decide (a0_5 ≤ y) then decide (y < a0_4) else false) = true) ∧ ((bif decide (a0_5 ≤ y) then decide (y < a0_4) else false) = true → (bif decide (a0_5 ≤ y) then decide (y < a0_4) else false) = true) ∧ ((bif decide (a0_5 ≤ y) then decide (y < a0_4) else false) = true → (bif decide (a0_5 ≤ y) then decide (y < a0_4) else false) = true) ∧ ((bif decide (a0_5 ≤ y) then decide (y < a0_4) else false) = true → (bif decide (a0_5 ≤ y) then decide (y < a0_4) else false) = true) ∧ ((bif decide (a0_5 ≤ y) then decide (y < a0_4) else false) = true → (bif decide (a0_5 ≤ y) then decide (y < a0_4) else false) = true) ∧ ((bif decide (a0_5 ≤ y) then decide (y < a0_4) else false) = true → (bif decide (a0_5 ≤ y) then decide (y < a0_4) else false) = true) ∧ ((bif decide (a0_5 ≤ y) then decide (y < a0_4) else false) = true → (bif decide (a0_5 ≤ y) then decide (y < a0_4) else false) = true) ∧ ((bif decide (a0_5 ≤ y) then decide (y < a0_4) else false) = true → (bif decide (a0_5 ≤ y) then decide (y < a0_4) else false) = true) ∧ ((bif decide (a0_5 ≤ y) then decide (y < a0_4) else false) = true → (bif decide (a0_5 ≤ y) then decide (y < a0_4) else false) = true) ∧ ((bif decide (a0_5 ≤ y) then decide (y < a0_4) else false) = true → (bif decide (a0_5 ≤ y) then decide (y < a0_4) else false) = true) ∧ ((bif decide (a0_5 ≤ y) then decide (y < a0_4) else false) = true → (bif decide (a0_5 ≤ y) then decide (y < a0_4) else false) = true) ∧ ((bif decide (a0_5 ≤ y) then decide (y < a0_4) else false) = true → (bif decide (a0_5 ≤ y) then decide (y < a0_4) else false) = true) ∧ ((bif decide (a0_5 ≤ y) then decide (y < a0_4) else false) = true → (bif decide (a0_5 ≤ y) then decide (y < a0_4) else false) = true) ∧ ((bif decide (a0_5 ≤ y) then decide (y < a0_4) else false) = true → (bif decide (a0_5 ≤ y) then decide (y < a0_4) else false) = true) ∧ ((bif decide (a0_5 ≤ y) then decide (y < a0_4) else false) = true → (bif decide (a0_5 ≤ y) then decide (y < a0_4) else false) = true) ∧ (bif bif decide (a0_5 ≤ y) then decide (y < a0_4) else false then decide (a0_3 < a0_1) else false) = tuS a b x y ∧ (tuS a b x y = true → K (D.p (PV.v (Value.int IntKind.i64 (Int.ofNat 1))))) ∧ (tuS a b x y = false → (decide (a0_4 ≤ y) = true → decide (a0_4 ≤ y) = true) ∧ (decide (a0_4 ≤ y) = true → decide (a0_4 ≤ y) = true) ∧ (decide (a0_4 ≤ y) = true → decide (a0_4 ≤ y) = true) ∧ (decide (a0_4 ≤ y) = true → decide (a0_4 ≤ y) = true) ∧ ((bif decide (a0_4 ≤ y) then decide (y < a0_5) else false) = true → (bif decide (a0_4 ≤ y) then decide (y < a0_5) else false) = true) ∧ ((bif decide (a0_4 ≤ y) then decide (y < a0_5) else false) = true → (bif decide (a0_4 ≤ y) then decide (y < a0_5) else false) = true) ∧ ((bif decide (a0_4 ≤ y) then decide (y < a0_5) else false) = true → (bif decide (a0_4 ≤ y) then decide (y < a0_5) else false) = true) ∧ ((bif decide (a0_4 ≤ y) then decide (y < a0_5) else false) = true → (bif decide (a0_4 ≤ y) then decide (y < a0_5) else false) = true) ∧ ((bif decide (a0_4 ≤ y) then decide (y < a0_5) else false) = true → (bif decide (a0_4 ≤ y) then decide (y < a0_5) else false) = true) ∧ ((bif decide (a0_4 ≤ y) then decide (y < a0_5) else false) = true → (bif decide (a0_4 ≤ y) then decide (y < a0_5) else false) = true) ∧ ((bif decide (a0_4 ≤ y) then decide (y < a0_5) else false) = true → (bif decide (a0_4 ≤ y) then decide (y < a0_5) else false) = true) ∧ ((bif decide (a0_4 ≤ y) then decide (y < a0_5) else false) = true → (bif decide (a0_4 ≤ y) then decide (y < a0_5) else false) = true) ∧ ((bif decide (a0_4 ≤ y) then decide (y < a0_5) else false) = true → (bif decide (a0_4 ≤ y) then decide (y < a0_5) else false) = true) ∧ ((bif decide (a0_4 ≤ y) then decide (y < a0_5) else false) = true → (bif decide (a0_4 ≤ y) then decide (y < a0_5) else false) = true) ∧ ((bif decide (a0_4 ≤ y) then decide (y < a0_5) else false) = true → (bif decide (a0_4 ≤ y) then decide (y < a0_5) else false) = true) ∧ ((bif decide (a0_4 ≤ y) then decide (y < a0_5) else false) = true → (bif decide (a0_4 ≤ y) then decide (y < a0_5) else false) = true) ∧ ((bif decide (a0_4 ≤ y) then decide (y < a0_5) else false) = true → (bif decide (a0_4 ≤ y) then decide (y < a0_5) else false) = true) ∧ ((bif decide (a0_4 ≤ y) then decide (y < a0_5) else false) = true → (bif decide (a0_4 ≤ y) then decide (y < a0_5) else false) = true) ∧ ((bif decide (a0_4 ≤ y) then decide (y < a0_5) else false) = true → (bif decide (a0_4 ≤ y) then decide (y < a0_5) else false) = true) ∧ ((bif decide (a0_4 ≤ y) then decide (y < a0_5) else false) = true → (bif decide (a0_4 ≤ y) then decide (y < a0_5) else false) = true) ∧ ((bif decide (a0_4 ≤ y) then decide (y < a0_5) else false) = true → (bif decide (a0_4 ≤ y) then decide (y < a0_5) else false) = true) ∧ ((bif decide (a0_4 ≤ y) then decide (y < a0_5) else false) = true → (bif decide (a0_4 ≤ y) then decide (y < a0_5) else false) = true) ∧ ((bif decide (a0_4 ≤ y) then decide (y < a0_5) else false) = true → (bif decide (a0_4 ≤ y) then decide (y < a0_5) else false) = true) ∧ ((bif decide (a0_4 ≤ y) then decide (y < a0_5) else false) = true → (bif decide (a0_4 ≤ y) then decide (y < a0_5) else false) = true) ∧ ((bif decide (a0_4 ≤ y) then decide (y < a0_5) else false) = true → (bif decide (a0_4 ≤ y) then decide (y < a0_5) else false) = true) ∧ (bif bif decide (a0_4 ≤ y) then decide (y < a0_5) else false then decide (a0_2 < a0_0) else false) = tuS b a x y ∧ (tuS b a x y = true → K (D.p (PV.v (Value.int IntKind.i64 (Int.negSucc 0))))) ∧ (tuS b a x y = false → K (D.p (PV.v (Value.int IntKind.i64 (Int.ofNat 0))))))) (by kernel_rfl) ?_
 have hK : ∀ q : Int, q = turnS a b x y → K (.p (eI q)) := fun q h => leP_eq (congrArg eI h)
 have k1 : tuS a b x y = true → K (.p (eI 1)) := fun h => hK _ (by unfold turnS; rw [h]; rfl)
 have k2 : tuS a b x y = false → tuS b a x y = true → K (.p (eI (-1))) := fun h h2 => hK _ (by unfold turnS; rw [h, h2]; rfl)
 have k3 : tuS a b x y = false → tuS b a x y = false → K (.p (eI 0)) := fun h h2 => hK _ (by unfold turnS; rw [h, h2]; rfl)
 repeat' first | exact fun h => h | exact rfl | exact k1 | refine And.intro ?_ ?_
 intro h
 have k4 := k2 h
 have k5 := k3 h
 repeat' first | exact fun h => h | exact rfl | exact k4 | exact k5 | refine And.intro ?_ ?_
set_option maxRecDepth 100000 in
theorem wind_ok (o : List (List Pt)) (x y : Int) (ho : o.length < 2 ^ 40) (hc : ∀ k, (o.getD k []).length < 2 ^ 40) : Pure Tryz.prog 90 [eO o, eI x, eI y] (vint .i64 (windS o x y)) := by
 let K : D → Prop := fun d => endL (vint .i64 (windS o x y)) d []
 refine pure_byL 20 (hWin o x y) (p :=
  let a0_6 : Nat × Option Bool × D := (1, none, D.p (eI x)); let a0_5 : Nat × Option Bool × D := (0, none, D.p (eO o)); let a0_4 : Nat × Option Bool × D := (2, none, D.p (eI y)); let a0_3 : Nat × Option Bool × D := (13, none, D.p (PV.v (Value.int IntKind.i64 (↑o.length : Int)))); let a0_2 : Nat × Option Bool × D := (12, none, D.p (PV.lst 1 o.length fun (i : Nat) => eC (o.getD i []))); let a0_1 : List (Nat × Option Bool × D) := [a0_5, a0_6, a0_4, a0_2, a0_3]; let a0_0 : Prop := a0_1 = a0_1 ∧ ([] : List O) = []; (∃ (x_1 : Nat), x_1 ≤ o.length ∧ Int.ofNat 0 = (↑x_1 : Int) ∧ Int.ofNat 0 = wnS o x y x_1 ∧ a0_0) ∧ ∀ (z : Nat), let a1_7 : Int := wnS o x y (↑z : Int).toNat; let a1_6 : List Pt := o.getD (↑z : Int).toNat []; let a1_5 : Nat := a1_6.length; let a1_4 : Int := (↑a1_5 : Int); let a1_3 : Option Bool × D := (none, D.p (PV.lst 3 a1_5 fun (i : Nat) => ePt (a1_6.getD i pt0))); let a1_2 : Nat × Option Bool × D := (9, a1_3); let a1_1 : List (Nat × Option Bool × D) := [(18, a1_3), (19, none, D.p (PV.v (Value.int IntKind.i64 a1_4)))]; let a1_0 : Prop := a0_5 :: a0_6 :: a0_4 :: a1_2 :: a0_2 :: a0_3 :: (14, none, D.p (PV.v (Value.int IntKind.i64 (↑z : Int)))) :: a1_1 = a0_5 :: a0_6 :: a0_4 :: a1_2 :: a0_2 :: a0_3 :: (14, none, vint IntKind.i64 (↑z : Int)) :: a1_1 ∧ ([] : List O) = []; z ≤ o.length → (decide ((↑z : Int) < (↑o.length : Int)) = true → (0 : Int) ≤ (↑z : Int) ∧ (↑z : Int) < (↑o.length : Int) ∧ (∃ (x_1 : Nat), x_1 ≤ a1_5 ∧ Int.ofNat 0 = (↑x_1 : Int) ∧ wnS o x y z = wiS a1_6 x y a1_7 x_1 ∧ a1_0) ∧ ∀ (z_1 : Nat), let a2_9 : Pt := a1_6.getD (↑z_1 : Int).toNat pt0; let a2_8 : Int := a2_9.fst; let a2_7 : Int × Bool := a2_9.snd; let a2_6 : Int := a2_7.fst; let a2_5 : Int := (↑(((↑z_1 : Int).toNat + a1_5 - 1) % a1_5) : Int); let a2_4 : Pt := a1_6.getD a2_5.toNat pt0; let a2_3 : Int × Bool := a2_4.snd; let a2_2 : Int := a2_4.fst; let a2_1 : Int := a2_3.fst; let a2_0 : Int := turnS (a2_2, a2_1, a2_3.snd) (a2_8, a2_6, a2_7.snd) x y; z_1 ≤ a1_5 → (decide ((↑z_1 : Int) < a1_4) = true → (0 : Int) ≤ (↑z_1 : Int) ∧ (↑z_1 : Int) < a1_4 ∧ (a1_4 = (0 : Int) → False) ∧ (IntKind.i64.wrap (IntKind.i64.wrap ((↑z_1 : Int) + a1_4) - (1 : Int))).tmod a1_4 = a2_5 ∧ (0 : Int) ≤ a2_5 ∧ a2_5 < a1_4 ∧ Eng.Pure Tryz.prog 110 [PV.agg [PV.v (Value.int IntKind.i64 a2_2), PV.v (Value.int IntKind.i64 a2_1), PV.v (Value.bool a2_3.snd)], PV.agg [PV.v (Value.int IntKind.i64 a2_8), PV.v (Value.int IntKind.i64 a2_6), PV.v (Value.bool a2_7.snd)], PV.v (Value.int IntKind.i64 x), PV.v (Value.int IntKind.i64 y)] (vint IntKind.i64 a2_0) ∧ ∃ (y_1 : Nat), y_1 ≤ a1_5 ∧ a1_5 - y_1 < a1_5 - z_1 ∧ IntKind.i64.wrap ((↑z_1 : Int) + (1 : Int)) = (↑y_1 : Int) ∧ IntKind.i64.wrap (wiS a1_6 x y a1_7 z_1 + a2_0) = wiS a1_6 x y a1_7 y_1 ∧ a1_0) ∧ (decide ((↑z_1 : Int) < a1_4) = false → ∃ (y_1 : Nat), y_1 ≤ o.length ∧ o.length - y_1 < o.length - z ∧ IntKind.i64.wrap ((↑z : Int) + (1 : Int)) = (↑y_1 : Int) ∧ wiS a1_6 x y a1_7 z_1 = wnS o x y y_1 ∧ a0_0)) ∧ (decide ((↑z : Int) < (↑o.length : Int)) = false → K (D.p (PV.v (Value.int IntKind.i64 (wnS o x y z)))))) (by kernel_rfl) ?_
 simp only [Int.toNat_natCast, decide_eq_true_eq, decide_eq_false_iff_not, and_true, true_and]
 refine ⟨⟨0, by omega, rfl, rfl⟩, fun z hz => ⟨fun h1 => ⟨by omega, h1, ⟨0, by omega, rfl, rfl⟩, fun y' hy => ⟨fun h2 => ?_, fun h2 => ⟨z + 1, by omega, by omega, wr64 (by omega) (by omega) (by omega), ?_⟩⟩⟩, fun h1 => ?_⟩⟩
 ·have hcz := hc z
  refine ⟨by omega, h2, by omega, ?_, Int.natCast_nonneg _, Int.ofNat_lt.2 (Nat.mod_lt _ (by omega)), turn_ok _ _ x y, y' + 1, by omega, by omega, wr64 (by omega) (by omega) (by omega), rfl⟩
  rw [show IntKind.wrap .i64 ((y' : Int) + (o.getD z []).length) = (y' : Int) + (o.getD z []).length from wr64 (by omega) (by omega) rfl,
   show IntKind.wrap .i64 ((y' : Int) + (o.getD z []).length - 1) = ((y' + (o.getD z []).length - 1 : Nat) : Int) from wr64 (by omega) (by omega) (by omega), Int.tmod_eq_emod_of_nonneg (Int.natCast_nonneg _)]
  rfl
 ·have : y' = (o.getD z []).length := by omega
  subst this; rfl
 ·have : z = o.length := by omega
  subst this
  exact leP_refl _
set_option maxRecDepth 100000 in
theorem cover_ok (o : List (List Pt)) (u x y : Int) (ho : o.length < 2 ^ 40) (hc : ∀ k, (o.getD k []).length < 2 ^ 40) : Pure Tryz.prog 65 [eO o, eI u, eI x, eI y] (vint .i64 (cvS o u x y 4)) := by
 let K : D → Prop := fun d => endL (vint .i64 (cvS o u x y 4)) d []
 refine pure_byL 20 (hCov o u x y) (p :=
  let a0_1 : List (Nat × Option Bool × D) := [(0, none, D.p (eO o)), (1, none, D.p (eI u)), (2, none, D.p (eI x)), (3, none, D.p (eI y))]; let a0_0 : Prop := a0_1 = a0_1 ∧ ([] : List O) = []; (∃ (x_1 : Nat), x_1 ≤ 4 ∧ Int.ofNat 0 = (↑x_1 : Int) ∧ Int.ofNat 0 = cvS o u x y x_1 ∧ a0_0) ∧ ∀ (z : Nat), let a1_6 : Int := cvY u y (↑z : Int).toNat; let a1_5 : Int := cvX u x (↑z : Int).toNat; let a1_4 : PV := PV.v (Value.int IntKind.i64 a1_5); let a1_3 : Nat := 4 - z; let a1_2 : List PV := [PV.v (Value.int IntKind.i64 a1_6)]; let a1_1 : Int := IntKind.i64.wrap ((↑z : Int) + (1 : Int)); let a1_0 : Int := windS o a1_5 a1_6; z ≤ 4 → (decide ((↑z : Int) < (4 : Int)) = true → ((2 : Int) = (0 : Int) → False) ∧ ((4 : Int) = (0 : Int) → False) ∧ IntKind.i64.wrap (IntKind.i64.wrap (u * x) + IntKind.i64.wrap ((IntKind.i64.wrap (IntKind.i64.wrap ((1 : Int) + IntKind.i64.wrap ((↑z : Int).tmod (2 : Int) * (2 : Int))) * u)).tdiv (4 : Int))) = a1_5 ∧ ((2 : Int) = (0 : Int) → False) ∧ ((4 : Int) = (0 : Int) → False) ∧ IntKind.i64.wrap (IntKind.i64.wrap (u * y) + IntKind.i64.wrap ((IntKind.i64.wrap (IntKind.i64.wrap ((1 : Int) + IntKind.i64.wrap (IntKind.i64.wrap ((↑z : Int).tdiv (2 : Int)) * (2 : Int))) * u)).tdiv (4 : Int))) = a1_6 ∧ Eng.Pure Tryz.prog 88 [a1_4] (vbool (inS a1_5)) ∧ (inS a1_5 = true → inS a1_5 = true) ∧ (inS a1_5 = true → Eng.Pure Tryz.prog 88 a1_2 (vbool (inS a1_6))) ∧ (inS a1_5 = true → inS a1_5 = true) ∧ ((bif inS a1_5 then inS a1_6 else false) = true → (bif inS a1_5 then inS a1_6 else false) = true) ∧ ((bif inS a1_5 then inS a1_6 else false) = true → (bif inS a1_5 then inS a1_6 else false) = true) ∧ ((bif inS a1_5 then inS a1_6 else false) = true → (bif inS a1_5 then inS a1_6 else false) = true) ∧ ((bif inS a1_5 then inS a1_6 else false) = true → Eng.Pure Tryz.prog 90 ((PV.lst 1 o.length fun (i : Nat) => eC (o.getD i [])) :: a1_4 :: a1_2) (vint IntKind.i64 a1_0)) ∧ ((bif inS a1_5 then inS a1_6 else false) = true → (bif inS a1_5 then inS a1_6 else false) = true) ∧ ((bif inS a1_5 then inS a1_6 else false) = true → (bif inS a1_5 then inS a1_6 else false) = true) ∧ ((bif bif inS a1_5 then inS a1_6 else false then a1_0 != (0 : Int) else false) = true → ∃ (y_1 : Nat), y_1 ≤ 4 ∧ 4 - y_1 < a1_3 ∧ a1_1 = (↑y_1 : Int) ∧ IntKind.i64.wrap (cvS o u x y z + (1 : Int)) = cvS o u x y y_1 ∧ a0_0) ∧ ((bif bif inS a1_5 then inS a1_6 else false then a1_0 != (0 : Int) else false) = false → ∃ (y_1 : Nat), y_1 ≤ 4 ∧ 4 - y_1 < a1_3 ∧ a1_1 = (↑y_1 : Int) ∧ cvS o u x y z = cvS o u x y y_1 ∧ a0_0)) ∧ (decide ((↑z : Int) < (4 : Int)) = false → K (D.p (PV.v (Value.int IntKind.i64 (cvS o u x y z)))))) (by kernel_rfl) ?_
 simp only [Int.toNat_natCast, decide_eq_true_eq, decide_eq_false_iff_not, and_true, true_and]
 have e1 : ∀ z : Nat, z < 4 → IntKind.wrap .i64 (1 + IntKind.wrap .i64 (Int.tmod (z : Int) 2 * 2)) = 1 + 2 * ((z : Int) % 2) := fun z h => by
  rcases (by omega : z = 0 ∨ z = 1 ∨ z = 2 ∨ z = 3) with rfl | rfl | rfl | rfl <;> decide
 have e2 : ∀ z : Nat, z < 4 → IntKind.wrap .i64 (1 + IntKind.wrap .i64 (IntKind.wrap .i64 (Int.tdiv (z : Int) 2) * 2)) = 1 + 2 * ((z : Int) / 2) := fun z h => by
  rcases (by omega : z = 0 ∨ z = 1 ∨ z = 2 ∨ z = 3) with rfl | rfl | rfl | rfl <;> decide
 refine ⟨⟨0, by omega, rfl, rfl⟩, fun z hz => ⟨fun h1 => ?_, fun h1 => ?_⟩⟩
 ·refine ⟨by omega, by omega, by rw [e1 z (by omega)]; rfl, by omega, by omega, by rw [e2 z (by omega)]; rfl, rin_ok _, fun h => h, fun _ => rin_ok _, fun h => h, fun h => h, fun h => h, fun h => h, fun _ => wind_ok o _ _ ho hc, fun h => h, fun h => h, fun h => ⟨z + 1, by omega, by omega, wr64 (by omega) (by omega) (by omega), ?_⟩, fun h => ⟨z + 1, by omega, by omega, wr64 (by omega) (by omega) (by omega), ?_⟩⟩
  ·have hq : covQ o u x y z = true := h
   rw [cvS, hq]; rfl
  ·have hq : covQ o u x y z = false := h
   rw [cvS, hq]; rfl
 ·have : z = 4 := by omega
  subst this
  exact leP_refl _
set_option maxRecDepth 100000 in
theorem over_ok (n u : Int) (hu : u ≠ 0) : Pure Tryz.prog 63 [eI n, eI u] (vint .i64 (ovS n u)) := by
 let K : D → Prop := fun d => endL (vint .i64 (ovS n u)) d []
 refine pure_byL 20 hOv (p :=
  (decide (n < (0 : Int)) = true → (u = (0 : Int) → False) ∧ K (D.p (PV.v (Value.int IntKind.i64 (IntKind.i64.wrap ((0 : Int) - IntKind.i64.wrap ((IntKind.i64.wrap (IntKind.i64.wrap (u - (1 : Int)) - n)).tdiv u))))))) ∧ (decide (n < (0 : Int)) = false → (u = (0 : Int) → False) ∧ K (D.p (PV.v (Value.int IntKind.i64 (IntKind.i64.wrap (n.tdiv u))))))) (by kernel_rfl) ?_
 refine ⟨fun h => ⟨hu, leP_eq (congrArg eI (if_pos (of_decide_eq_true h)).symm)⟩, fun h => ⟨hu, leP_eq (congrArg eI (if_neg (of_decide_eq_false h)).symm)⟩⟩
end Go.Proofs.YtekhlnihpfkkkaaGreatDoor
namespace Go.Proofs.YtekhlnihpfkkkaaGreatDoor
open Go.Eng
def onP (x y : Int) : Pt := (x, y, true)
def pg1 : List (List Pt) := [[onP 2048 0, onP 6144 0, onP 6144 12288, onP 2048 12288]]
def pg2 : List (List Pt) := [[onP 2048 0, onP 6144 0, onP 6144 12288, onP 2048 12288], [onP 10240 0, onP 14336 0, onP 14336 12288, onP 10240 12288]]
def eBs (l : List Bool) : PV := .lst 1 l.length fun i => eB (l.getD i false)
def ePic (a b w h : Int) (l : List Bool) : PV := .agg [eI a, eI b, .agg [eI w, eI h, eBs l]]
def pcDot (o : List (List Pt)) : FuncId → List PV → Option D := fun f ar => bif Nat.beq f 65 then (match ar with
 | [_, .v (.int _ u), .v (.int _ x), .v (.int _ y)] => some (vint .i64 (cvS o u x y 4))
 | _ => none) else bif Nat.beq f 63 then (match ar with
 | [.v (.int _ n), .v (.int _ u)] => some (vint .i64 (ovS n u))
 | _ => none) else none
def jnDot (n w : Nat) : Nat → Env → List O → Option JH := fun r E H => bif Nat.beq r 19 then
 some ⟨[(16, none, .ref (n + 1) []), (17, none, vint .i64 0)], keepE [0, 1, 4, 15] E, H ++ [.arr 4 1 (w * 7) (fun _ => vbool false), .box (.agg [vint .i64 w, vint .i64 7, .own n])], [n, n + 1], []⟩ else none
def dtQ (o : List (List Pt)) (w j : Nat) : Bool := decide (2 ≤ cvS o 2048 (IntKind.wrap .i64 (1 + ((j % w : Nat) : Int))) (IntKind.wrap .i64 (0 + ((j / w : Nat) : Int))) 4)
def lDot (o : List (List Pt)) (n w : Nat) : Nat → Env → List O → Option LH := fun r E H =>
 bif Nat.beq r 23 then some (mkLH E H [0, 1, 4, 15, 16, 95] [n] (fun z : Nat => [(96, none, vint .i64 z)]) (fun z => [(n, .arr 4 1 (w * 7) fun j => if j < z * w then vbool (dtQ o w j) else vbool false)]) (fun z => z ≤ 7) (fun z => 7 - z))
 else bif Nat.beq r 26 then (match E.get 18 with
 | some (_, .p (.v (.int _ y))) => some (mkLH E H [0, 1, 4, 15, 16, 18, 95, 96, 100] [n] (fun x : Nat => [(101, none, vint .i64 x)]) (fun x => [(n, .arr 4 1 (w * 7) fun j => if j < y.toNat * w + x then vbool (dtQ o w j) else vbool false)]) (fun x => x ≤ w) (fun x => w - x))
 | _ => none) else none
def reDot (w : Nat) : Env → Nat → RH → RH := fun E r R => bif Nat.beq r 28 then (match E.get 18, E.get 19 with
 | some (_, .p (.v (.int _ y))), some (_, .p (.v (.int _ x))) => { R with hs := [(7, vint .i64 ((y.toNat * w + x.toNat : Nat) : Int))] }
 | _, _ => R) else R
def hDot (o : List (List Pt)) (n w : Nat) : FuncId → FH := fun f => bif Nat.beq f 37 then { sp := [97, 102], rounds := 10, pc := pcDot o, jn := jnDot n w, lp := lDot o n w, re := reDot w, reg := fun r => { g := 1, sh := bif Nat.ble 23 r then none else some [], lit := Nat.blt r 22 }, fr := [1000 + n], rt := [4, 5] } else { rounds := 60, reg := fun _ => { g := 1, lit := true } }
def dtL (o : List (List Pt)) (w : Nat) : List Bool := (List.range (w * 7)).map (dtQ o w)
def dt1 : List Bool := (List.range 21).map fun k => decide (k / 3 < 6) && decide (k % 3 < 2)
def dt2 : List Bool := (List.range 49).map fun k => decide (k / 7 < 6) && (decide (k % 7 < 2) || decide (k % 7 = 4) || decide (k % 7 = 5))
theorem dtQ_at (o : List (List Pt)) (w z x : Nat) (h : x < w) : dtQ o w (z * w + x) = decide (2 ≤ cvS o 2048 (IntKind.wrap .i64 (1 + (x : Int))) (IntKind.wrap .i64 (0 + (z : Int))) 4) := by
 have e1 : (z * w + x) % w = x := by rw [Nat.mul_comm, Nat.mul_add_mod, Nat.mod_eq_of_lt h]
 have e2 : (z * w + x) / w = z := by rw [Nat.mul_comm, Nat.mul_add_div (by omega), Nat.div_eq_of_lt h, Nat.add_zero]
 unfold dtQ
 rw [e1, e2]
theorem len_rm' {α : Type} (f : Nat → α) (n : Nat) : ((List.range n).map f).length = n := by simp
set_option maxRecDepth 100000 in
theorem dots1_ok : Pure Tryz.prog 37 [eO pg1, eI 2048] (.tup [.p (ePic 1 0 3 7 (dtL pg1 3)), vint .i64 0]) := by
 let K : D → Prop := fun d => endL (.tup [.p (ePic 1 0 3 7 (dtL pg1 3)), vint .i64 0]) d []
 refine pure_byL 20 (hDot pg1 10 3) (p :=
  let a0_36 : PV := PV.v (Value.int IntKind.i64 (7 : Int)); let a0_35 : Int := (↑3 : Int); let a0_34 : PV := PV.v (Value.int IntKind.i64 (0 : Int)); let a0_33 : PV := PV.v (Value.int IntKind.i64 (Int.ofNat 6144)); let a0_32 : PV := PV.v (Value.int IntKind.i64 (Int.ofNat 0)); let a0_31 : PV := PV.v (Value.int IntKind.i64 (Int.ofNat 1)); let a0_30 : PV := PV.v (Value.int IntKind.i64 (Int.ofNat 2048)); let a0_29 : D := D.p a0_36; let a0_28 : PV := PV.v (Value.int IntKind.i64 (Int.ofNat 12288)); let a0_27 : List D := [D.own 10]; let a0_26 : PV := PV.v (Value.int IntKind.i64 a0_35); let a0_25 : D := D.p a0_26; let a0_24 : List PV := [a0_30]; let a0_23 : List PV := [PV.v (Value.slice none 0 0)]; let a0_22 : List PV := [a0_32, PV.v (Value.bool true)]; let a0_21 : List PV := [a0_28, PV.v (Value.bool true)]; let a0_20 : Nat × Option Bool × D := (0, none, D.p (eO pg1)); let a0_19 : Nat × Option Bool × D := (1, none, D.p (eI (2048 : Int))); let a0_18 : Nat × Option Bool × D := (15, none, D.ref 9 []); let a0_17 : Nat × Option Bool × D := (4, none, D.ref 0 []); let a0_16 : Nat × Option Bool × D := (16, none, D.ref 11 []); let a0_15 : Nat × Option Bool × D := (95, none, a0_29); let a0_14 : O := O.box (D.p (PV.agg (a0_30 :: a0_22))); let a0_13 : O := O.box (D.p (PV.agg (a0_33 :: a0_22))); let a0_12 : D := D.agg (vint IntKind.i64 a0_35 :: vint IntKind.i64 (7 : Int) :: a0_27); let a0_11 : O := O.box (D.p (PV.agg (a0_30 :: a0_21))); let a0_10 : O := O.box (D.p (PV.agg (a0_33 :: a0_21))); let a0_9 : List (Nat × Option Bool × D) := [(100, none, a0_25)]; let a0_8 : O := O.box (D.p (PV.agg [a0_34, a0_34, PV.agg (a0_34 :: a0_34 :: a0_23)])); let a0_7 : O := O.box (D.p (PV.agg [a0_31, a0_32, PV.agg (a0_32 :: a0_32 :: a0_23)])); let a0_6 : List (Nat × Nat) := numbered [0, 1, 2, 3, 4, 5, 6, 7, 8, 9, 10, 11] 0; let a0_5 : List (Nat × Option Bool × D) := [a0_20, a0_19, a0_17, a0_18]; let a0_4 : List (Nat × Option Bool × D) := [a0_20, a0_19, a0_17, a0_18, a0_16, a0_15]; let a0_3 : List O := [a0_8, a0_14, a0_13, a0_10, a0_11, a0_14, a0_13, a0_10, a0_11, a0_7]; let a0_2 : Prop := [a0_8, a0_14, a0_13, a0_10, a0_11, a0_14, a0_13, a0_10, a0_11, a0_7, O.box (D.agg (a0_25 :: a0_29 :: a0_27))] = [a0_8, a0_14, a0_13, a0_10, a0_11, a0_14, a0_13, a0_10, a0_11, a0_7, O.box a0_12]; let a0_1 : Prop := Int.ofNat 0 = (0 : Int) ∧ (21 = 21 ∧ ∀ (j : Nat), j < 21 → D.p (PV.v (Value.bool false)) = vbool false) ∧ D.agg (D.p (PV.v (Value.int IntKind.i64 (Int.ofNat 3))) :: D.p (PV.v (Value.int IntKind.i64 (Int.ofNat 7))) :: a0_27) = a0_12 ∧ a0_5 = a0_5 ∧ a0_3 = a0_3; let a0_0 : Prop := a0_4 = a0_4 ∧ a0_2; Eng.Pure Tryz.prog 63 (a0_30 :: a0_24) (vint IntKind.i64 (ovS (Int.ofNat 2048) (Int.ofNat 2048))) ∧ Eng.Pure Tryz.prog 63 (a0_32 :: a0_24) (vint IntKind.i64 (ovS (Int.ofNat 0) (Int.ofNat 2048))) ∧ (Eng.Pure Tryz.prog 63 (a0_33 :: a0_24) (vint IntKind.i64 (ovS (Int.ofNat 6144) (Int.ofNat 2048))) ∧ Eng.Pure Tryz.prog 63 (a0_28 :: a0_24) (vint IntKind.i64 (ovS (Int.ofNat 12288) (Int.ofNat 2048))) ∧ (True ∧ (∀ (i : Nat), i < 21 → D.ren (numbered [0, 1, 2, 3, 4, 5, 6, 7, 8, 9, 11, 12] 0) (D.p (PV.v (Value.bool false))) = some (D.p (PV.v (Value.bool false)))) ∧ a0_1) ∧ True ∧ (∀ (i : Nat), i < 21 → D.ren (numbered [0, 1, 2, 3, 4, 5, 6, 7, 8, 9, 12, 10] 0) (D.p (PV.v (Value.bool false))) = some (D.p (PV.v (Value.bool false)))) ∧ a0_1) ∧ (∃ (x : Nat), let a1_0 : Nat := x * 3; x ≤ 7 ∧ (∀ (i : Nat), i < 21 → D.ren a0_6 (vbool false) = some (vbool false)) ∧ Int.ofNat 0 = (↑x : Int) ∧ (21 = 21 ∧ ∀ (j : Nat), j < 21 → vbool false = if j < a1_0 then vbool (dtQ pg1 3 j) else vbool false) ∧ a0_0) ∧ ∀ (z : Nat), let a1_5 : Nat := z * 3; let a1_4 : Option Bool × D := (none, D.p (PV.v (Value.int IntKind.i64 (↑z : Int)))); let a1_3 : Nat := (↑z : Int).toNat * 3; let a1_2 : Int := IntKind.i64.wrap (Int.ofNat 0 + (↑z : Int)); let a1_1 : Nat × Option Bool × D := (18, a1_4); let a1_0 : Prop := a0_20 :: a0_19 :: a0_17 :: a0_18 :: a0_16 :: a1_1 :: a0_15 :: (96, a1_4) :: a0_9 = a0_20 :: a0_19 :: a0_17 :: a0_18 :: a0_16 :: a1_1 :: a0_15 :: (96, none, vint IntKind.i64 (↑z : Int)) :: a0_9 ∧ a0_2; z ≤ 7 → (decide ((↑z : Int) < (7 : Int)) = true → (∃ (x : Nat), let a2_0 : Nat := a1_3 + x; x ≤ 3 ∧ (∀ (i : Nat), let a3_0 : D := if i < a1_5 then vbool (dtQ pg1 3 i) else vbool false; i < 21 → D.ren a0_6 a3_0 = some a3_0) ∧ Int.ofNat 0 = (↑x : Int) ∧ (21 = 21 ∧ ∀ (j : Nat), let a3_0 : D := vbool (dtQ pg1 3 j); j < 21 → (if j < a1_5 then a3_0 else vbool false) = if j < a2_0 then a3_0 else vbool false) ∧ a1_0) ∧ ∀ (z_1 : Nat), let a2_5 : Nat := a1_3 + z_1; let a2_4 : Int := (↑(a1_3 + (↑z_1 : Int).toNat) : Int); let a2_3 : Nat := a2_4.toNat; let a2_2 : Int := IntKind.i64.wrap (Int.ofNat 1 + (↑z_1 : Int)); let a2_1 : Int := cvS pg1 (2048 : Int) a2_2 a1_2 4; let a2_0 : D := D.p (PV.v (Value.bool (decide ((2 : Int) ≤ a2_1)))); z_1 ≤ 3 → (decide ((↑z_1 : Int) < a0_35) = true → IntKind.i64.wrap (IntKind.i64.wrap ((↑z : Int) * a0_35) + (↑z_1 : Int)) = a2_4 ∧ Eng.Pure Tryz.prog 65 [PV.lst 1 1 fun (i : Nat) => eC (pg1.getD i []), PV.v (Value.int IntKind.i64 (2048 : Int)), PV.v (Value.int IntKind.i64 a2_2), PV.v (Value.int IntKind.i64 a1_2)] (vint IntKind.i64 a2_1) ∧ (0 : Int) ≤ a2_4 ∧ a2_4 < (↑21 : Int) ∧ a2_3 < 21 ∧ ∃ (y : Nat), let a3_0 : Nat := a1_3 + y; y ≤ 3 ∧ 3 - y < 3 - z_1 ∧ (∀ (i : Nat), let a4_0 : D := upd (fun (j : Nat) => if j < a2_5 then vbool (dtQ pg1 3 j) else vbool false) a2_3 a2_0 i; i < 21 → D.ren a0_6 a4_0 = some a4_0) ∧ IntKind.i64.wrap ((↑z_1 : Int) + (1 : Int)) = (↑y : Int) ∧ (21 = 21 ∧ ∀ (j : Nat), j < 21 → upd (fun (j : Nat) => if j < a2_5 then vbool (dtQ pg1 3 j) else vbool false) a2_3 a2_0 j = if j < a3_0 then vbool (dtQ pg1 3 j) else vbool false) ∧ a1_0) ∧ (decide ((↑z_1 : Int) < a0_35) = false → ∃ (y : Nat), let a3_0 : Nat := y * 3; y ≤ 7 ∧ 7 - y < 7 - z ∧ (∀ (i : Nat), let a4_0 : D := if i < a2_5 then vbool (dtQ pg1 3 i) else vbool false; i < 21 → D.ren a0_6 a4_0 = some a4_0) ∧ IntKind.i64.wrap ((↑z : Int) + (1 : Int)) = (↑y : Int) ∧ (21 = 21 ∧ ∀ (j : Nat), let a4_0 : D := vbool (dtQ pg1 3 j); j < 21 → (if j < a2_5 then a4_0 else vbool false) = if j < a3_0 then a4_0 else vbool false) ∧ a0_0)) ∧ (decide ((↑z : Int) < (7 : Int)) = false → (∀ (j : Nat), let a2_0 : D := if j < a1_5 then vbool (dtQ pg1 3 j) else vbool false; j < 21 → a2_0 = D.p a2_0.unP) ∧ K (D.tup [D.p (PV.agg [a0_31, a0_32, PV.agg [a0_26, a0_36, PV.lst 1 21 fun (j : Nat) => (if j < a1_5 then vbool (dtQ pg1 3 j) else vbool false).unP]]), D.p a0_32]))) (by kernel_rfl) ?_
 simp only [Int.toNat_natCast, decide_eq_true_eq, decide_eq_false_iff_not, and_true, true_and]
 have hir : ∀ (l : List Nat) (a i : Nat), D.ren (numbered l 0) (if i < a then vbool (dtQ pg1 3 i) else vbool false) = some (if i < a then vbool (dtQ pg1 3 i) else vbool false) := fun l a i => by split <;> rfl
 have hcv : ∀ x y, Pure Tryz.prog 65 [eO pg1, eI 2048, eI x, eI y] (vint .i64 (cvS pg1 2048 x y 4)) := fun x y => cover_ok pg1 2048 x y (by decide) (fun k => by rcases k with _ | _ | k <;> first | decide | (show 0 < 2 ^ 40; decide))
 refine ⟨over_ok _ _ (by decide), over_ok _ _ (by decide), ⟨over_ok _ _ (by decide), over_ok _ _ (by decide), ⟨fun _ _ => rfl, rfl, fun _ _ => trivial, rfl⟩, ⟨fun _ _ => rfl, rfl, fun _ _ => trivial, rfl⟩⟩, ⟨0, by omega, fun _ _ => rfl, rfl, fun j hj => by rw [if_neg (by omega)]⟩, fun z hz => ⟨fun h1 => ⟨⟨0, by omega, fun i _ => hir _ _ _, rfl, fun j hj => rfl⟩, fun x hx => ⟨fun h2 => ?_, fun h2 => ?_⟩⟩, fun h1 => ?_⟩⟩
 ·refine ⟨?_, hcv _ _, by omega, by omega, by omega, x + 1, by omega, by omega, fun i _ => upd_ren (fun i => hir _ _ _) rfl i, wr64 (by omega) (by omega) (by omega), fun j _ => pref_upd (A := fun j => vbool (dtQ pg1 3 j)) (congrArg vbool (dtQ_at pg1 3 z x (by omega)).symm) j⟩
  rw [show IntKind.wrap .i64 ((z : Int) * 3) = z * 3 from wr64 (by omega) (by omega) rfl]
  exact wr64 (by omega) (by omega) (by omega)
 ·have : x = 3 := by omega
  subst this
  exact ⟨z + 1, by omega, by omega, fun i _ => hir _ _ _, wr64 (by omega) (by omega) (by omega), fun j _ => by rw [Nat.succ_mul]⟩
 ·have : z = 7 := by omega
  subst this
  refine ⟨fun j hj => by split <;> rfl, ⟨leP_refl _, leP_refl _, ⟨leP_refl _, leP_refl _, ⟨(len_rm' _ _).symm, fun j hj => ?_⟩, trivial⟩, trivial⟩, leP_refl _, trivial⟩
  show leP (if j < 7 * 3 then vbool (dtQ pg1 3 j) else vbool false).unP (eB ((dtL pg1 3).getD j false))
  rw [if_pos (show j < 7 * 3 by omega), show (dtL pg1 3).getD j false = dtQ pg1 3 j from getD_rm (by omega)]
  exact leP_refl _
set_option maxRecDepth 100000 in
theorem dots2_ok : Pure Tryz.prog 37 [eO pg2, eI 2048] (.tup [.p (ePic 1 0 7 7 (dtL pg2 7)), vint .i64 0]) := by
 let K : D → Prop := fun d => endL (.tup [.p (ePic 1 0 7 7 (dtL pg2 7)), vint .i64 0]) d []
 refine pure_byL 20 (hDot pg2 18 7) (p :=
  let a0_43 : Int := (↑7 : Int); let a0_42 : PV := PV.v (Value.int IntKind.i64 (7 : Int)); let a0_41 : PV := PV.v (Value.int IntKind.i64 (0 : Int)); let a0_40 : PV := PV.v (Value.int IntKind.i64 (Int.ofNat 6144)); let a0_39 : PV := PV.v (Value.int IntKind.i64 (Int.ofNat 0)); let a0_38 : PV := PV.v (Value.int IntKind.i64 (Int.ofNat 1)); let a0_37 : PV := PV.v (Value.int IntKind.i64 (Int.ofNat 2048)); let a0_36 : PV := PV.v (Value.int IntKind.i64 (Int.ofNat 10240)); let a0_35 : D := D.p a0_42; let a0_34 : PV := PV.v (Value.int IntKind.i64 (Int.ofNat 14336)); let a0_33 : PV := PV.v (Value.int IntKind.i64 (Int.ofNat 12288)); let a0_32 : D := D.p (PV.v (Value.int IntKind.i64 (Int.ofNat 7))); let a0_31 : List D := [D.own 18]; let a0_30 : PV := PV.v (Value.int IntKind.i64 a0_43); let a0_29 : D := D.p a0_30; let a0_28 : List PV := [a0_37]; let a0_27 : List PV := [PV.v (Value.slice none 0 0)]; let a0_26 : List PV := [a0_39, PV.v (Value.bool true)]; let a0_25 : List PV := [a0_33, PV.v (Value.bool true)]; let a0_24 : Nat × Option Bool × D := (0, none, D.p (eO pg2)); let a0_23 : Nat × Option Bool × D := (1, none, D.p (eI (2048 : Int))); let a0_22 : Nat × Option Bool × D := (15, none, D.ref 17 []); let a0_21 : Nat × Option Bool × D := (4, none, D.ref 0 []); let a0_20 : Nat × Option Bool × D := (16, none, D.ref 19 []); let a0_19 : Nat × Option Bool × D := (95, none, a0_35); let a0_18 : O := O.box (D.p (PV.agg (a0_34 :: a0_25))); let a0_17 : D := D.agg (vint IntKind.i64 a0_43 :: vint IntKind.i64 (7 : Int) :: a0_31); let a0_16 : O := O.box (D.p (PV.agg (a0_34 :: a0_26))); let a0_15 : O := O.box (D.p (PV.agg (a0_36 :: a0_25))); let a0_14 : O := O.box (D.p (PV.agg (a0_37 :: a0_26))); let a0_13 : O := O.box (D.p (PV.agg (a0_40 :: a0_26))); let a0_12 : O := O.box (D.p (PV.agg (a0_37 :: a0_25))); let a0_11 : O := O.box (D.p (PV.agg (a0_40 :: a0_25))); let a0_10 : O := O.box (D.p (PV.agg (a0_36 :: a0_26))); let a0_9 : List (Nat × Option Bool × D) := [(100, none, a0_29)]; let a0_8 : O := O.box (D.p (PV.agg [a0_41, a0_41, PV.agg (a0_41 :: a0_41 :: a0_27)])); let a0_7 : O := O.box (D.p (PV.agg [a0_38, a0_39, PV.agg (a0_39 :: a0_39 :: a0_27)])); let a0_6 : List (Nat × Option Bool × D) := [a0_24, a0_23, a0_21, a0_22]; let a0_5 : List (Nat × Nat) := numbered [0, 1, 2, 3, 4, 5, 6, 7, 8, 9, 10, 11, 12, 13, 14, 15, 16, 17, 18, 19] 0; let a0_4 : List (Nat × Option Bool × D) := [a0_24, a0_23, a0_21, a0_22, a0_20, a0_19]; let a0_3 : List O := [a0_8, a0_14, a0_13, a0_11, a0_12, a0_10, a0_16, a0_18, a0_15, a0_14, a0_13, a0_11, a0_12, a0_10, a0_16, a0_18, a0_15, a0_7]; let a0_2 : Prop := [a0_8, a0_14, a0_13, a0_11, a0_12, a0_10, a0_16, a0_18, a0_15, a0_14, a0_13, a0_11, a0_12, a0_10, a0_16, a0_18, a0_15, a0_7, O.box (D.agg (a0_29 :: a0_35 :: a0_31))] = [a0_8, a0_14, a0_13, a0_11, a0_12, a0_10, a0_16, a0_18, a0_15, a0_14, a0_13, a0_11, a0_12, a0_10, a0_16, a0_18, a0_15, a0_7, O.box a0_17]; let a0_1 : Prop := Int.ofNat 0 = (0 : Int) ∧ (49 = 49 ∧ ∀ (j : Nat), j < 49 → D.p (PV.v (Value.bool false)) = vbool false) ∧ D.agg (a0_32 :: a0_32 :: a0_31) = a0_17 ∧ a0_6 = a0_6 ∧ a0_3 = a0_3; let a0_0 : Prop := a0_4 = a0_4 ∧ a0_2; Eng.Pure Tryz.prog 63 (a0_37 :: a0_28) (vint IntKind.i64 (ovS (Int.ofNat 2048) (Int.ofNat 2048))) ∧ Eng.Pure Tryz.prog 63 (a0_39 :: a0_28) (vint IntKind.i64 (ovS (Int.ofNat 0) (Int.ofNat 2048))) ∧ (Eng.Pure Tryz.prog 63 (a0_34 :: a0_28) (vint IntKind.i64 (ovS (Int.ofNat 14336) (Int.ofNat 2048))) ∧ Eng.Pure Tryz.prog 63 (a0_33 :: a0_28) (vint IntKind.i64 (ovS (Int.ofNat 12288) (Int.ofNat 2048))) ∧ (True ∧ (∀ (i : Nat), i < 49 → D.ren (numbered [0, 1, 2, 3, 4, 5, 6, 7, 8, 9, 10, 11, 12, 13, 14, 15, 16, 17, 19, 20] 0) (D.p (PV.v (Value.bool false))) = some (D.p (PV.v (Value.bool false)))) ∧ a0_1) ∧ True ∧ (∀ (i : Nat), i < 49 → D.ren (numbered [0, 1, 2, 3, 4, 5, 6, 7, 8, 9, 10, 11, 12, 13, 14, 15, 16, 17, 20, 18] 0) (D.p (PV.v (Value.bool false))) = some (D.p (PV.v (Value.bool false)))) ∧ a0_1) ∧ (∃ (x : Nat), let a1_0 : Nat := x * 7; x ≤ 7 ∧ (∀ (i : Nat), i < 49 → D.ren a0_5 (vbool false) = some (vbool false)) ∧ Int.ofNat 0 = (↑x : Int) ∧ (49 = 49 ∧ ∀ (j : Nat), j < 49 → vbool false = if j < a1_0 then vbool (dtQ pg2 7 j) else vbool false) ∧ a0_0) ∧ ∀ (z : Nat), let a1_5 : Nat := z * 7; let a1_4 : Option Bool × D := (none, D.p (PV.v (Value.int IntKind.i64 (↑z : Int)))); let a1_3 : Nat := (↑z : Int).toNat * 7; let a1_2 : Int := IntKind.i64.wrap (Int.ofNat 0 + (↑z : Int)); let a1_1 : Nat × Option Bool × D := (18, a1_4); let a1_0 : Prop := a0_24 :: a0_23 :: a0_21 :: a0_22 :: a0_20 :: a1_1 :: a0_19 :: (96, a1_4) :: a0_9 = a0_24 :: a0_23 :: a0_21 :: a0_22 :: a0_20 :: a1_1 :: a0_19 :: (96, none, vint IntKind.i64 (↑z : Int)) :: a0_9 ∧ a0_2; z ≤ 7 → (decide ((↑z : Int) < (7 : Int)) = true → (∃ (x : Nat), let a2_0 : Nat := a1_3 + x; x ≤ 7 ∧ (∀ (i : Nat), let a3_0 : D := if i < a1_5 then vbool (dtQ pg2 7 i) else vbool false; i < 49 → D.ren a0_5 a3_0 = some a3_0) ∧ Int.ofNat 0 = (↑x : Int) ∧ (49 = 49 ∧ ∀ (j : Nat), let a3_0 : D := vbool (dtQ pg2 7 j); j < 49 → (if j < a1_5 then a3_0 else vbool false) = if j < a2_0 then a3_0 else vbool false) ∧ a1_0) ∧ ∀ (z_1 : Nat), let a2_5 : Nat := a1_3 + z_1; let a2_4 : Int := (↑(a1_3 + (↑z_1 : Int).toNat) : Int); let a2_3 : Nat := a2_4.toNat; let a2_2 : Int := IntKind.i64.wrap (Int.ofNat 1 + (↑z_1 : Int)); let a2_1 : Int := cvS pg2 (2048 : Int) a2_2 a1_2 4; let a2_0 : D := D.p (PV.v (Value.bool (decide ((2 : Int) ≤ a2_1)))); z_1 ≤ 7 → (decide ((↑z_1 : Int) < a0_43) = true → IntKind.i64.wrap (IntKind.i64.wrap ((↑z : Int) * a0_43) + (↑z_1 : Int)) = a2_4 ∧ Eng.Pure Tryz.prog 65 [PV.lst 1 2 fun (i : Nat) => eC (pg2.getD i []), PV.v (Value.int IntKind.i64 (2048 : Int)), PV.v (Value.int IntKind.i64 a2_2), PV.v (Value.int IntKind.i64 a1_2)] (vint IntKind.i64 a2_1) ∧ (0 : Int) ≤ a2_4 ∧ a2_4 < (↑49 : Int) ∧ a2_3 < 49 ∧ ∃ (y : Nat), let a3_0 : Nat := a1_3 + y; y ≤ 7 ∧ 7 - y < 7 - z_1 ∧ (∀ (i : Nat), let a4_0 : D := upd (fun (j : Nat) => if j < a2_5 then vbool (dtQ pg2 7 j) else vbool false) a2_3 a2_0 i; i < 49 → D.ren a0_5 a4_0 = some a4_0) ∧ IntKind.i64.wrap ((↑z_1 : Int) + (1 : Int)) = (↑y : Int) ∧ (49 = 49 ∧ ∀ (j : Nat), j < 49 → upd (fun (j : Nat) => if j < a2_5 then vbool (dtQ pg2 7 j) else vbool false) a2_3 a2_0 j = if j < a3_0 then vbool (dtQ pg2 7 j) else vbool false) ∧ a1_0) ∧ (decide ((↑z_1 : Int) < a0_43) = false → ∃ (y : Nat), let a3_0 : Nat := y * 7; y ≤ 7 ∧ 7 - y < 7 - z ∧ (∀ (i : Nat), let a4_0 : D := if i < a2_5 then vbool (dtQ pg2 7 i) else vbool false; i < 49 → D.ren a0_5 a4_0 = some a4_0) ∧ IntKind.i64.wrap ((↑z : Int) + (1 : Int)) = (↑y : Int) ∧ (49 = 49 ∧ ∀ (j : Nat), let a4_0 : D := vbool (dtQ pg2 7 j); j < 49 → (if j < a2_5 then a4_0 else vbool false) = if j < a3_0 then a4_0 else vbool false) ∧ a0_0)) ∧ (decide ((↑z : Int) < (7 : Int)) = false → (∀ (j : Nat), let a2_0 : D := if j < a1_5 then vbool (dtQ pg2 7 j) else vbool false; j < 49 → a2_0 = D.p a2_0.unP) ∧ K (D.tup [D.p (PV.agg [a0_38, a0_39, PV.agg [a0_30, a0_42, PV.lst 1 49 fun (j : Nat) => (if j < a1_5 then vbool (dtQ pg2 7 j) else vbool false).unP]]), D.p a0_39]))) (by kernel_rfl) ?_
 simp only [Int.toNat_natCast, decide_eq_true_eq, decide_eq_false_iff_not, and_true, true_and]
 have hir : ∀ (l : List Nat) (a i : Nat), D.ren (numbered l 0) (if i < a then vbool (dtQ pg2 7 i) else vbool false) = some (if i < a then vbool (dtQ pg2 7 i) else vbool false) := fun l a i => by split <;> rfl
 have hcv : ∀ x y, Pure Tryz.prog 65 [eO pg2, eI 2048, eI x, eI y] (vint .i64 (cvS pg2 2048 x y 4)) := fun x y => cover_ok pg2 2048 x y (by decide) (fun k => by rcases k with _ | _ | k <;> first | decide | (show 0 < 2 ^ 40; decide))
 refine ⟨over_ok _ _ (by decide), over_ok _ _ (by decide), ⟨over_ok _ _ (by decide), over_ok _ _ (by decide), ⟨fun _ _ => rfl, rfl, fun _ _ => trivial, rfl⟩, ⟨fun _ _ => rfl, rfl, fun _ _ => trivial, rfl⟩⟩, ⟨0, by omega, fun _ _ => rfl, rfl, fun j hj => by rw [if_neg (by omega)]⟩, fun z hz => ⟨fun h1 => ⟨⟨0, by omega, fun i _ => hir _ _ _, rfl, fun j hj => rfl⟩, fun x hx => ⟨fun h2 => ?_, fun h2 => ?_⟩⟩, fun h1 => ?_⟩⟩
 ·refine ⟨?_, hcv _ _, by omega, by omega, by omega, x + 1, by omega, by omega, fun i _ => upd_ren (fun i => hir _ _ _) rfl i, wr64 (by omega) (by omega) (by omega), fun j _ => pref_upd (A := fun j => vbool (dtQ pg2 7 j)) (congrArg vbool (dtQ_at pg2 7 z x (by omega)).symm) j⟩
  rw [show IntKind.wrap .i64 ((z : Int) * 7) = z * 7 from wr64 (by omega) (by omega) rfl]
  exact wr64 (by omega) (by omega) (by omega)
 ·have : x = 7 := by omega
  subst this
  exact ⟨z + 1, by omega, by omega, fun i _ => hir _ _ _, wr64 (by omega) (by omega) (by omega), fun j _ => by rw [Nat.succ_mul]⟩
 ·have : z = 7 := by omega
  subst this
  refine ⟨fun j hj => by split <;> rfl, ⟨leP_refl _, leP_refl _, ⟨leP_refl _, leP_refl _, ⟨(len_rm' _ _).symm, fun j hj => ?_⟩, trivial⟩, trivial⟩, leP_refl _, trivial⟩
  show leP (if j < 7 * 7 then vbool (dtQ pg2 7 j) else vbool false).unP (eB ((dtL pg2 7).getD j false))
  rw [if_pos (show j < 7 * 7 by omega), show (dtL pg2 7).getD j false = dtQ pg2 7 j from getD_rm (by omega)]
  exact leP_refl _
theorem dt1_eq : dtL pg1 3 = dt1 := by decide +kernel
theorem dt2_eq : dtL pg2 7 = dt2 := by decide +kernel
end Go.Proofs.YtekhlnihpfkkkaaGreatDoor
namespace Go.Proofs.YtekhlnihpfkkkaaGreatDoor
open Go.Eng
def ou1 : List (List Pt) := [[onP 64 0, onP 192 0, onP 192 384, onP 64 384]]
def ou2 : List (List Pt) := [[onP 64 0, onP 192 0, onP 192 384, onP 64 384], [onP 320 0, onP 448 0, onP 448 384, onP 320 384]]
def hFl (l : List Nat) : FuncId → FH := fun f => bif Nat.beq f 38 then { rounds := 10, reg := fun _ => { g := 1, lit := true }, za := l ++ [0], fr := l.map (1000 + ·) ++ [1000], fi := [1000], rt := [2] } else { rounds := 10, reg := fun _ => { g := 1, lit := true } }
set_option maxRecDepth 100000 in
theorem flat1_ok : Pure Tryz.prog 38 [eO ou1] (.p (eO pg1)) := by
 let K : D → Prop := fun d => endL (.p (eO pg1)) d []
 refine pure_byL 20 (hFl [15]) (p :=
  let a0_6 : PV := PV.v (Value.int IntKind.i64 (Int.ofNat 6144)); let a0_5 : PV := PV.v (Value.int IntKind.i64 (Int.ofNat 2048)); let a0_4 : List D := [D.own 15]; let a0_3 : List PV := [PV.v (Value.int IntKind.i64 (Int.ofNat 12288)), PV.v (Value.bool true)]; let a0_2 : List PV := [PV.v (Value.int IntKind.i64 (Int.ofNat 0)), PV.v (Value.bool true)]; let a0_1 : List D := [D.p (PV.agg (a0_5 :: a0_2)), D.p (PV.agg (a0_6 :: a0_2)), D.p (PV.agg (a0_6 :: a0_3)), D.p (PV.agg (a0_5 :: a0_3))]; let a0_0 : PV := PV.lst 3 4 fun (j : Nat) => (nthD a0_1 j).unP; (∀ (j : Nat), j < 4 → nthD a0_1 j = D.p (nthD a0_1 j).unP) ∧ (∀ (j : Nat), let a1_0 : D := (D.frz 15 a0_0 (nthD a0_4 j)).getD (nthD a0_4 j); j < 1 → a1_0 = D.p a1_0.unP) ∧ K (D.p (PV.lst 1 1 fun (j : Nat) => ((D.frz 15 a0_0 (nthD a0_4 j)).getD (nthD a0_4 j)).unP))) (by kernel_rfl) ?_
 have hK : ∀ f : Nat → PV, (∀ j, j < 1 → leP (f j) (eC (pg1.getD j []))) → K (.p (.lst 1 1 f)) := fun f h => ⟨rfl, h⟩
 simp only [and_true, true_and]
 refine ⟨fun j hj => ?_, fun j hj => ?_, hK _ fun j hj => ?_⟩
 rotate_left 2
 ·rcases j with _ | _ | j
  all_goals first | (exfalso; omega) | (refine ⟨rfl, fun i hi => ?_⟩; rcases i with _ | _ | _ | _ | i <;> first | exact leP_refl _ | (exfalso; omega))
 all_goals (rcases j with _ | _ | _ | _ | j <;> first | rfl | (exfalso; omega))
set_option maxRecDepth 100000 in
theorem flat2_ok : Pure Tryz.prog 38 [eO ou2] (.p (eO pg2)) := by
 let K : D → Prop := fun d => endL (.p (eO pg2)) d []
 refine pure_byL 20 (hFl [15, 30]) (p :=
  let a0_10 : PV := PV.v (Value.int IntKind.i64 (Int.ofNat 6144)); let a0_9 : PV := PV.v (Value.int IntKind.i64 (Int.ofNat 10240)); let a0_8 : PV := PV.v (Value.int IntKind.i64 (Int.ofNat 2048)); let a0_7 : PV := PV.v (Value.int IntKind.i64 (Int.ofNat 14336)); let a0_6 : List PV := [PV.v (Value.int IntKind.i64 (Int.ofNat 12288)), PV.v (Value.bool true)]; let a0_5 : List PV := [PV.v (Value.int IntKind.i64 (Int.ofNat 0)), PV.v (Value.bool true)]; let a0_4 : List D := [D.own 15, D.own 30]; let a0_3 : List D := [D.p (PV.agg (a0_9 :: a0_5)), D.p (PV.agg (a0_7 :: a0_5)), D.p (PV.agg (a0_7 :: a0_6)), D.p (PV.agg (a0_9 :: a0_6))]; let a0_2 : List D := [D.p (PV.agg (a0_8 :: a0_5)), D.p (PV.agg (a0_10 :: a0_5)), D.p (PV.agg (a0_10 :: a0_6)), D.p (PV.agg (a0_8 :: a0_6))]; let a0_1 : PV := PV.lst 3 4 fun (j : Nat) => (nthD a0_3 j).unP; let a0_0 : PV := PV.lst 3 4 fun (j : Nat) => (nthD a0_2 j).unP; (∀ (j : Nat), j < 4 → nthD a0_2 j = D.p (nthD a0_2 j).unP) ∧ (∀ (j : Nat), j < 4 → nthD a0_3 j = D.p (nthD a0_3 j).unP) ∧ (∀ (j : Nat), let a1_1 : D := (D.frz 15 a0_0 (nthD a0_4 j)).getD (nthD a0_4 j); let a1_0 : D := (D.frz 30 a0_1 a1_1).getD a1_1; j < 2 → a1_0 = D.p a1_0.unP) ∧ K (D.p (PV.lst 1 2 fun (j : Nat) => ((D.frz 30 a0_1 ((D.frz 15 a0_0 (nthD a0_4 j)).getD (nthD a0_4 j))).getD ((D.frz 15 a0_0 (nthD a0_4 j)).getD (nthD a0_4 j))).unP))) (by kernel_rfl) ?_
 have hK : ∀ f : Nat → PV, (∀ j, j < 2 → leP (f j) (eC (pg2.getD j []))) → K (.p (.lst 1 2 f)) := fun f h => ⟨rfl, h⟩
 simp only [and_true, true_and]
 refine ⟨fun j hj => ?_, fun j hj => ?_, fun j hj => ?_, hK _ fun j hj => ?_⟩
 rotate_left 3
 ·rcases j with _ | _ | j
  all_goals first | (exfalso; omega) | (refine ⟨rfl, fun i hi => ?_⟩; rcases i with _ | _ | _ | _ | i <;> first | exact leP_refl _ | (exfalso; omega))
 all_goals (rcases j with _ | _ | _ | _ | j <;> first | rfl | (exfalso; omega))
end Go.Proofs.YtekhlnihpfkkkaaGreatDoor
namespace Go.Proofs.YtekhlnihpfkkkaaGreatDoor
open Go.Eng
def ou3 : List (List Pt) := [[onP 64 0, onP 168 0, onP 168 288, onP 48 288]]
def barC : List Pt := [onP 8 0, onP 24 0, onP 24 48, onP 8 48]
def gBlank : Gl := ⟨[98, 108, 97, 110, 107], 32, [], [], [], (0, 0), []⟩
def barD : List Dl := [([(0, 64, 64)], [(0, 0), (8, 0), (8, 0), (0, 0)])]
def gBar : Gl := ⟨[98, 97, 114], 32, [barC], barD, [], (1, 0), []⟩
def twoP : List Tn := [(1, 0, 0), (1, 32, 0)]
def gTwo : Gl := ⟨[116, 119, 111], 64, [], [], twoP, (0, 0), []⟩
def exF : Ft := ⟨[112, 108, 97, 105, 110], 0, [⟨[119], 0, 0, 64⟩], [gBlank, gBar, gTwo], [], [], []⟩
def ndl : PV := .v (.slice none 0 0)
def exG (j : Nat) : PV := [.agg [.s gBlank.name, eI 32, ndl, ndl, ndl, ndl, ndl], .agg [.s gBar.name, eI 32, eO [barC], eDls barD, ndl, eTs (hpM (1, 0)), ndl], .agg [.s gTwo.name, eI 64, ndl, ndl, eTs twoP, ndl, ndl]].getD j default
def hEx : FuncId → FH := fun f => bif Nat.beq f 13 then { rounds := 5, reg := fun r => { g := 1, sh := none, cs := bif Nat.beq r 1 then [(4, .p (eC barC)), (5, .p (eO [barC])), (7, .p (eTs [(0, 64, 64)])), (12, .p (eMs [(0, 0), (8, 0), (8, 0), (0, 0)])), (14, .p (eDls barD)), (18, .p (eTs (hpM (1, 0))))] else bif Nat.beq r 2 then [(2, .p (eTs twoP))] else bif Nat.beq r 3 then [(1, .p (eL eAx 4 ax0 exF.axes)), (5, .p (.lst 7 3 exG))] else [] } } else { rounds := 5, reg := fun _ => { g := 1, sh := none } }
def hLit : FuncId → FH := fun _ => { rounds := 60, reg := fun _ => { g := 1, lit := true } }
set_option maxRecDepth 100000 in
theorem ex_ok : Pure Tryz.prog 13 [] (.p (eFn exF)) := by
 let K : D → Prop := fun d => endL (.p (eFn exF)) d []
 refine pure_byL 20 hEx (p :=
  let a0_21 : PV := PV.v (Value.int IntKind.i64 (32 : Int)); let a0_20 : PV := PV.v (Value.int IntKind.i64 (24 : Int)); let a0_19 : PV := PV.v (Value.int IntKind.i64 (8 : Int)); let a0_18 : PV := PV.v (Value.int IntKind.i64 (0 : Int)); let a0_17 : PV := PV.v (Value.int IntKind.i64 (64 : Int)); let a0_16 : PV := PV.v (Value.int IntKind.i64 (1 : Int)); let a0_15 : List PV := [a0_18]; let a0_14 : List PV := [a0_17]; let a0_13 : Int × Int := ((8 : Int), (0 : Int)); let a0_12 : Int × Int := ((0 : Int), (0 : Int)); let a0_11 : PV := PV.v (Value.slice none 0 0); let a0_10 : List Tn := hpM (1, 0); let a0_9 : List PV := [a0_18, PV.v (Value.bool true)]; let a0_8 : List PV := [PV.v (Value.int IntKind.i64 (48 : Int)), PV.v (Value.bool true)]; let a0_7 : List PV := [a0_11]; let a0_6 : List PV := a0_18 :: a0_15; let a0_5 : PV := PV.agg a0_6; let a0_4 : PV := PV.agg (a0_19 :: a0_15); let a0_3 : List Tn := [((0 : Int), (64 : Int), (64 : Int))]; let a0_2 : List PV := a0_11 :: a0_7; let a0_1 : List PV := a0_11 :: a0_2; let a0_0 : List (Int × Int) := [a0_12, a0_13, a0_13, a0_12]; (∀ (j : Nat), j < 4 → [PV.agg (a0_19 :: a0_9), PV.agg (a0_20 :: a0_9), PV.agg (a0_20 :: a0_8), PV.agg (a0_19 :: a0_8)].getD j default = ePt (barC.getD j pt0)) ∧ (∀ (j : Nat), j < 1 → [PV.lst 3 4 fun (i : Nat) => ePt (barC.getD i pt0)].getD j default = eC ([barC].getD j [])) ∧ (∀ (j : Nat), j < 1 → [PV.agg (a0_18 :: a0_17 :: a0_14)].getD j default = eT (a0_3.getD j tn0)) ∧ (∀ (j : Nat), j < 4 → [a0_5, a0_4, a0_4, a0_5].getD j default = eR (a0_0.getD j a0_12)) ∧ (∀ (j : Nat), j < 1 → [PV.agg [PV.lst 3 1 fun (i : Nat) => eT (a0_3.getD i tn0), PV.lst 2 4 fun (i : Nat) => eR (a0_0.getD i a0_12)]].getD j default = eDl (barD.getD j dl0)) ∧ (∀ (j : Nat), j < 3 → [PV.agg (PV.v (Value.int IntKind.i64 (10 : Int)) :: a0_6), PV.agg (a0_19 :: a0_6), PV.agg (PV.v (Value.int IntKind.i64 (12 : Int)) :: a0_6)].getD j default = eT (a0_10.getD j tn0)) ∧ (∀ (j : Nat), j < 2 → [PV.agg (a0_16 :: a0_6), PV.agg (a0_16 :: a0_21 :: a0_15)].getD j default = eT (twoP.getD j tn0)) ∧ (∀ (j : Nat), j < 1 → [PV.agg (PV.s ([(119 : UInt8)] : List UInt8) :: a0_18 :: a0_18 :: a0_14)].getD j default = eAx (exF.axes.getD j ax0)) ∧ (∀ (j : Nat), j < 3 → [PV.agg (PV.s ([(98 : UInt8), (108 : UInt8), (97 : UInt8), (110 : UInt8), (107 : UInt8)] : List UInt8) :: a0_21 :: a0_11 :: a0_11 :: a0_1), PV.agg (PV.s ([(98 : UInt8), (97 : UInt8), (114 : UInt8)] : List UInt8) :: a0_21 :: (PV.lst 1 1 fun (i : Nat) => eC ([barC].getD i [])) :: (PV.lst 2 1 fun (i : Nat) => eDl (barD.getD i dl0)) :: a0_11 :: (PV.lst 3 3 fun (i : Nat) => eT (a0_10.getD i tn0)) :: a0_7), PV.agg (PV.s ([(116 : UInt8), (119 : UInt8), (111 : UInt8)] : List UInt8) :: a0_17 :: a0_11 :: a0_11 :: (PV.lst 3 2 fun (i : Nat) => eT (twoP.getD i tn0)) :: a0_2)].getD j default = exG j) ∧ K (D.p (PV.agg (PV.s ([(112 : UInt8), (108 : UInt8), (97 : UInt8), (105 : UInt8), (110 : UInt8)] : List UInt8) :: a0_18 :: (PV.lst 4 1 fun (i : Nat) => eAx (exF.axes.getD i ax0)) :: PV.lst 7 3 exG :: a0_1)))) (by kernel_rfl) ?_
 have hK : ∀ x : PV, leP x (eFn exF) → K (.p x) := fun x h => h
 simp only [and_true, true_and]
 refine ⟨?_, ?_, ?_, ?_, ?_, ?_, ?_, ?_, ?_, hK _ ⟨rfl, rfl, leP_refl _, ⟨rfl, fun j hj => ?_⟩, rfl, rfl, rfl, trivial⟩⟩
 rotate_right 1
 ·rcases j with _ | _ | _ | j
  ·exact ⟨rfl, rfl, rfl, rfl, rfl, rfl, rfl, trivial⟩
  ·exact ⟨rfl, rfl, leP_refl _, leP_refl _, rfl, leP_refl _, rfl, trivial⟩
  ·exact ⟨rfl, rfl, rfl, rfl, leP_refl _, rfl, rfl, trivial⟩
  ·omega
 all_goals (intro j hj; rcases j with _ | _ | _ | _ | j <;> first | rfl | (exfalso; omega))
set_option maxRecDepth 100000 in
theorem same1_ok : Pure Tryz.prog 15 [eO ou1, eO ou1] (vbool true) := by
 let K : D → Prop := fun d => endL (vbool true) d []
 refine pure_byL 20 hLit (p :=
  K (D.p (PV.v (Value.bool true)))) (by kernel_rfl) ?_
 exact leP_refl _
set_option maxRecDepth 100000 in
theorem same3_ok : Pure Tryz.prog 15 [eO ou3, eO ou3] (vbool true) := by
 let K : D → Prop := fun d => endL (vbool true) d []
 refine pure_byL 20 hLit (p :=
  K (D.p (PV.v (Value.bool true)))) (by kernel_rfl) ?_
 exact leP_refl _
set_option maxRecDepth 100000 in
theorem cols1_ok : Pure Tryz.prog 18 [ePic 1 0 3 7 dt1, eI 3, eBs [true, true, false]] (vbool true) := by
 let K : D → Prop := fun d => endL (vbool true) d []
 refine pure_byL 20 hLit (p :=
  K (D.p (PV.v (Value.bool true)))) (by kernel_rfl) ?_
 exact leP_refl _
set_option maxRecDepth 100000 in
theorem cols2_ok : Pure Tryz.prog 18 [ePic 1 0 7 7 dt2, eI 7, eBs [true, true, false, false, true, true, false]] (vbool true) := by
 let K : D → Prop := fun d => endL (vbool true) d []
 refine pure_byL 20 hLit (p :=
  K (D.p (PV.v (Value.bool true)))) (by kernel_rfl) ?_
 exact leP_refl _
end Go.Proofs.YtekhlnihpfkkkaaGreatDoor
namespace Go.Proofs.YtekhlnihpfkkkaaGreatDoor
open Go.RowKit Go.Maps Go.Sort Go.Shelf
def layK_ren : Go.Shelf.Ren := ⟨fun | 7 => 41 | 10 => 68 | n => n, fun | 23 => 116 | 26 => 3 | 3 => 4 | 28 => 120 | 0 => 0 | 27 => 119 | 33 => 133 | 4 => 4 | n => n, fun | n => n⟩
theorem layK : Go.Proofs.SlLaysZI.n7 Tryz.prog layK_ren where
 mixed := by kernel_rfl
 f7 := ⟨ Tryz.f41.name, by decide, Tryz.func41.trans (congrArg some (by kernel_rfl))⟩
 f10 := ⟨ Tryz.f68.name, by decide, Tryz.func68.trans (congrArg some (by kernel_rfl))⟩
 t0 := Tryz.underlying0
 a0 := Tryz.isAgg0
 z0 := Tryz.sizeOf0
 v0 := Tryz.zeroValue0
 t4 := Tryz.underlying4
 a4 := Tryz.isAgg4
 z4 := Tryz.sizeOf4
 v4 := Tryz.zeroValue4
 t23 := Tryz.underlying116
 a23 := Tryz.isAgg116
 z23 := Tryz.sizeOf116
 v23 := Tryz.zeroValue116
 t26 := Tryz.underlying3
 a26 := Tryz.isAgg3
 z26 := Tryz.sizeOf3
 v26 := Tryz.zeroValue3
 t27 := Tryz.underlying119
 a27 := Tryz.isAgg119
 z27 := Tryz.sizeOf119
 v27 := Tryz.zeroValue119
 t28 := Tryz.underlying120
 a28 := Tryz.isAgg120
 z28 := Tryz.sizeOf120
 v28 := Tryz.zeroValue120
 t33 := Tryz.underlying133
 a33 := Tryz.isAgg133
 z33 := Tryz.sizeOf133
 v33 := Tryz.zeroValue133
def layS_ren : Go.Shelf.Ren := ⟨fun | 6 => 40 | 8 => 67 | 9 => 34 | 11 => 94 | 13 => 59 | 12 => 58 | 23 => 86 | 24 => 87 | 14 => 77 | 15 => 78 | 16 => 79 | 17 => 80 | 18 => 81 | 19 => 82 | 20 => 83 | 21 => 84 | 22 => 85 | 25 => 104 | 26 => 105 | 27 => 106 | 28 => 107 | 29 => 108 | 30 => 109 | 31 => 118 | n => n, fun | 26 => 3 | 28 => 120 | 24 => 23 | 0 => 0 | 3 => 3 | 37 => 149 | 48 => 175 | 50 => 177 | 4 => 4 | 40 => 168 | 39 => 167 | 45 => 97 | 5 => 5 | 9 => 9 | 51 => 197 | 55 => 201 | 57 => 212 | 58 => 181 | 33 => 133 | n => n, fun | n => n⟩
theorem layS : Go.Proofs.SlLaysZI.n6 Tryz.prog layS_ren where
 mixed := by kernel_rfl
 f6 := ⟨ Tryz.f40.name, by decide, Tryz.func40.trans (congrArg some (by kernel_rfl))⟩
 f8 := ⟨ Tryz.f67.name, by decide, Tryz.func67.trans (congrArg some (by kernel_rfl))⟩
 f11 := ⟨ Tryz.f94.name, by decide, Tryz.func94.trans (congrArg some (by kernel_rfl))⟩
 t0 := Tryz.underlying0
 a0 := Tryz.isAgg0
 z0 := Tryz.sizeOf0
 v0 := Tryz.zeroValue0
 t24 := Tryz.underlying23
 a24 := Tryz.isAgg23
 z24 := Tryz.sizeOf23
 v24 := Tryz.zeroValue23
 t26 := Tryz.underlying3
 a26 := Tryz.isAgg3
 z26 := Tryz.sizeOf3
 v26 := Tryz.zeroValue3
 t28 := Tryz.underlying120
 a28 := Tryz.isAgg120
 z28 := Tryz.sizeOf120
 v28 := Tryz.zeroValue120
 i26 := by kernel_rfl
def layM_ren : Go.Shelf.Ren := ⟨fun | 5 => 34 | 8 => 59 | 7 => 58 | 19 => 86 | 20 => 87 | 10 => 77 | 11 => 78 | 12 => 79 | 13 => 80 | 14 => 81 | 15 => 82 | 16 => 83 | 17 => 84 | 18 => 85 | 30 => 104 | 31 => 105 | 32 => 106 | 33 => 107 | 34 => 108 | 35 => 109 | 40 => 118 | n => n, fun | 23 => 23 | 25 => 3 | 3 => 3 | 32 => 149 | 22 => 23 | 0 => 0 | 44 => 175 | 46 => 177 | 4 => 4 | 36 => 168 | 35 => 167 | 41 => 97 | 5 => 5 | 9 => 9 | 53 => 197 | 57 => 201 | 63 => 212 | 64 => 181 | n => n, fun | n => n⟩
theorem layM : Go.Proofs.SlLaysM.n5 Tryz.prog layM_ren where
 mixed := by kernel_rfl
 f5 := ⟨ Tryz.f34.name, by decide, Tryz.func34.trans (congrArg some (by kernel_rfl))⟩
 f7 := ⟨ Tryz.f58.name, by decide, Tryz.func58.trans (congrArg some (by kernel_rfl))⟩
 f8 := Tryz.func59.trans (congrArg some (by kernel_rfl))
 f10 := ⟨ Tryz.f77.name, by decide, Tryz.func77.trans (congrArg some (by kernel_rfl))⟩
 f11 := ⟨ Tryz.f78.name, by decide, Tryz.func78.trans (congrArg some (by kernel_rfl))⟩
 f12 := ⟨ Tryz.f79.name, by decide, Tryz.func79.trans (congrArg some (by kernel_rfl))⟩
 f13 := ⟨ Tryz.f80.name, by decide, Tryz.func80.trans (congrArg some (by kernel_rfl))⟩
 f14 := ⟨ Tryz.f81.name, by decide, Tryz.func81.trans (congrArg some (by kernel_rfl))⟩
 f15 := ⟨ Tryz.f82.name, by decide, Tryz.func82.trans (congrArg some (by kernel_rfl))⟩
 f16 := ⟨ Tryz.f83.name, by decide, Tryz.func83.trans (congrArg some (by kernel_rfl))⟩
 f17 := ⟨ Tryz.f84.name, by decide, Tryz.func84.trans (congrArg some (by kernel_rfl))⟩
 f18 := ⟨ Tryz.f85.name, by decide, Tryz.func85.trans (congrArg some (by kernel_rfl))⟩
 f19 := Tryz.func86.trans (congrArg some (by kernel_rfl))
 f20 := Tryz.func87.trans (congrArg some (by kernel_rfl))
 f30 := ⟨ Tryz.f104.name, by decide, Tryz.func104.trans (congrArg some (by kernel_rfl))⟩
 f31 := Tryz.func105.trans (congrArg some (by kernel_rfl))
 f32 := Tryz.func106.trans (congrArg some (by kernel_rfl))
 f33 := ⟨ Tryz.f107.name, by decide, Tryz.func107.trans (congrArg some (by kernel_rfl))⟩
 f34 := ⟨ Tryz.f108.name, by decide, Tryz.func108.trans (congrArg some (by kernel_rfl))⟩
 f35 := ⟨ Tryz.f109.name, by decide, Tryz.func109.trans (congrArg some (by kernel_rfl))⟩
 f40 := ⟨ Tryz.f118.name, by decide, Tryz.func118.trans (congrArg some (by kernel_rfl))⟩
 t0 := Tryz.underlying0
 a0 := Tryz.isAgg0
 z0 := Tryz.sizeOf0
 v0 := Tryz.zeroValue0
 t3 := Tryz.underlying3
 a3 := Tryz.isAgg3
 z3 := Tryz.sizeOf3
 v3 := Tryz.zeroValue3
 t4 := Tryz.underlying4
 a4 := Tryz.isAgg4
 z4 := Tryz.sizeOf4
 v4 := Tryz.zeroValue4
 t5 := Tryz.underlying5
 a5 := Tryz.isAgg5
 z5 := Tryz.sizeOf5
 v5 := Tryz.zeroValue5
 t9 := Tryz.underlying9
 a9 := Tryz.isAgg9
 z9 := Tryz.sizeOf9
 v9 := Tryz.zeroValue9
 t22 := Tryz.underlying23
 a22 := Tryz.isAgg23
 z22 := Tryz.sizeOf23
 v22 := Tryz.zeroValue23
 t23 := Tryz.underlying23
 a23 := Tryz.isAgg23
 z23 := Tryz.sizeOf23
 v23 := Tryz.zeroValue23
 t25 := Tryz.underlying3
 a25 := Tryz.isAgg3
 z25 := Tryz.sizeOf3
 v25 := Tryz.zeroValue3
 t32 := Tryz.underlying149
 a32 := Tryz.isAgg149
 z32 := Tryz.sizeOf149
 v32 := Tryz.zeroValue149
 t35 := Tryz.underlying167
 a35 := Tryz.isAgg167
 z35 := Tryz.sizeOf167
 v35 := Tryz.zeroValue167
 t36 := Tryz.underlying168
 a36 := Tryz.isAgg168
 z36 := Tryz.sizeOf168
 v36 := Tryz.zeroValue168
 t41 := Tryz.underlying97
 a41 := Tryz.isAgg97
 z41 := Tryz.sizeOf97
 v41 := Tryz.zeroValue97
 t44 := Tryz.underlying175
 a44 := Tryz.isAgg175
 z44 := Tryz.sizeOf175
 v44 := Tryz.zeroValue175
 t46 := Tryz.underlying177
 a46 := Tryz.isAgg177
 z46 := Tryz.sizeOf177
 v46 := Tryz.zeroValue177
 t53 := Tryz.underlying197
 a53 := Tryz.isAgg197
 z53 := Tryz.sizeOf197
 v53 := Tryz.zeroValue197
 t57 := Tryz.underlying201
 a57 := Tryz.isAgg201
 z57 := Tryz.sizeOf201
 v57 := Tryz.zeroValue201
 t63 := Tryz.underlying212
 a63 := Tryz.isAgg212
 z63 := Tryz.sizeOf212
 v63 := Tryz.zeroValue212
 t64 := Tryz.underlying181
 a64 := Tryz.isAgg181
 z64 := Tryz.sizeOf181
 v64 := Tryz.zeroValue181
theorem sortsK (m : Nat) : AnyZI.SortsIn Tryz.prog layS_ren Fence.wide m :=
 ⟨fun blk off cap ss W hH hblk hsz => callsIn_wide.2 (AnyM.slices_Sort_int layM blk off cap ss W hH hblk hsz), fun p cap W => callsIn_wide.2 (AnyM.slices_Sort_int_none layM p cap W)⟩
end Go.Proofs.YtekhlnihpfkkkaaGreatDoor
namespace Go.Eng
def plug (g : FuncId) (p : CallW) (W : YW → CallW) : YW → CallW := fun Y nb f args H K => bif Nat.beq f g then p nb f args H K else W Y nb f args H K
theorem plug_sound {P : Program} {m0 : Nat} {g : FuncId} {p : CallW} {W : YW → CallW} (hp : ∀ C : Cx, C.P = P → SoundC C p) (hW : SoundG P m0 W) : SoundG P m0 (plug g p W) := by
 intro C Y hP hm hY f args H K h
 unfold plug at h
 cases e : Nat.beq f g with
 | true => rw [e] at h; exact hp C hP f args H K h
 | false => rw [e] at h; exact hW C Y hP hm hY f args H K h
def WTop (P : Program) (m0 : Nat) (h : FuncId → FH) (CALL : YW → CallW) : YW → CallW := fun Y nb f args H K => match P.funcs[f]? with
  | some fn => match fn.body with
   | some c => if Nat.ble args.length fn.ntmps then fN (max nb H.length) fun nb => WC P m0 nb fn.ntmps CALL Y f (h f) c true [] (argED args 0) H (endW P f fn.results.toList K) else Stuck f 0 6001
   | none => Stuck f 0 6002
  | none => Stuck f 0 6003
theorem WTop_sound {P : Program} {m0 : Nat} {h : FuncId → FH} {CALL : YW → CallW} (hC : SoundG P m0 CALL) : SoundG P m0 (WTop P m0 h CALL) := by
  intro C Y hP hm hY f args H K hw F γ w vs hS hlen hrel R hR
  subst hP hm
  simp only [WTop] at hw
  split at hw
  ·rename_i fn hf
   split at hw
   ·rename_i c hb
    split at hw
    ·rename_i hle
     rw [fN_eq] at hw
     let C' : Cx := { C with N := fn.ntmps, B := C.B.low F γ H.length, D := [] }
     have hS' : SLH C' F γ H w := hS.base' ⟨hS.base, fun _ _ x => x, fun _ _ _ x => x⟩
     refine callsIn_wide.1 (callsIn_of_wp_marks (F := Fence.wide) (n := 1) hf hb trivial ?_)
     refine wpIn_wide.2 (WC_sound (C := C') hC (hY.over ⟨rfl, rfl, rfl, rfl, fun _ _ h => h, fun _ _ h => h.1⟩) hw (fun C2 e2 _ e L' E' H' a w' hK hSL => ?_) _ w (sl_enter rfl rfl (Nat.le_of_ble_eq_true hle) hS' hlen hrel))
     obtain ⟨R2, ms, rfl, x1, x2, x3, x4⟩ := e2.eq
     obtain ⟨⟨F', γ', k1, k2⟩, k3, k4⟩ := hSL
     have fin : ∀ {vc ds}, evRess C.P H' E' fn.results.toList = some (vc, ds) → andL true vc (fLw (fD 3) ds fun ds => K (one ds) H') → LeavesInM Fence.wide 1 C.P fn a.tmps R a.defers .returning w' := by
      intro vc ds h1 h2
      have h2 := andL_spec h2
      rw [fLD_eq] at h2
      rw [k4]
      show LeavesInM _ _ _ _ _ _ (ms.map _ ++ []) _ _
      rw [List.append_nil]
      refine leaves_marks ms { C' with R := R2, D := ms.map dOf ++ C'.D } w' rfl x2 (fun r hr => (x3 r hr).2) x4 k1 fun R3 w3 hR3 h3 => ?_
      obtain ⟨vs', g1, g2, g3⟩ := evRess_sound h3 k2 h1 h2.1
      have h4 : SLH C F' γ' H' w3 := by
       have hb := h3.base
       refine ⟨h3.sub, hb.1, h3.glob, h3.ext, h3.top, h3.free, h3.obj, h3.apart, h3.given, h3.dis, h3.os, h3.tape, h3.output, h3.grows, h3.block, fun b o ho => ?_, h3.live⟩
       refine h3.raw b o (hR3 b o (x1 b o ho) fun hm => ?_)
       have := (x3 b hm).1
       have ho' : C'.R b = some o := ho
       rw [ho'] at this
       cases this
      exact ⟨_, results_run g3, hR _ _ _ F' γ' w3 h2.2 h4 (one_base g1 g2) k1.base.2.1 fun i g hg => k1.base.2.2 i g (by
       by_cases hi : i < H.length
       ·exact hi
       ·rw [hS.top i (by omega)] at hg; cases hg) hg⟩
     cases e with
     | x i => exact hK.elim
     | n =>
      simp only [endW] at hK
      split at hK
      ·rename_i vc ds h1; exact fin h1 hK
      ·exact hK.elim
     | r =>
      simp only [endW] at hK
      split at hK
      ·rename_i vc ds h1; exact fin h1 hK
      ·exact hK.elim
    ·exact hw.elim
   ·exact hw.elim
  ·exact hw.elim
theorem pure_byC {P : Program} {f : FuncId} {args : List PV} {res : D} {W : YW → CallW} {p : Prop} (hW : SoundG P 0 W) (e : p = W [] 0 f (args.map .p) [] (endL res)) (hp : p) : Pure P f args res := by
 intro F w vs hsub hglob hlen hrel
 refine hW ⟨P, w, F, [], 0, .top, noR, []⟩ [] rfl rfl YOK.nil f (args.map .p) [] _ (e ▸ hp) F noG w vs (slh_base hsub hglob) (by simp [hlen]) (fun i d v hd hv => ?_) _ ?_
 ·simp only [List.getElem?_map, Option.map_eq_some_iff] at hd
  obtain ⟨p, hp, rfl⟩ := hd
  exact hrel i p v hp hv
 ·intro d H' v F' γ' w' hK k1 k2 _ _
  unfold endL at hK
  split at hK
  ·rename_i d' h1
   exact ⟨v, F', rfl, k1.sub, k1.ext, grew_of_base k1, leT_rel hK (ren_relV (fun i k h => by cases h) h1 k2)⟩
  ·exact Stuck.elim hK
end Go.Eng
namespace Go.Proofs.YtekhlnihpfkkkaaGreatDoor
open Go.Eng Go.RowKit Go.Maps Go.Sort Go.Shelf
open Go.WideElems (rd rg rd_mk)
abbrev RN : Value → Option (DataW Unit × List MemPlace) := fun _ => some (.nil, [])
def KeysP (ks : List Int) (F : List Int → Option PV) : Prop := ks.Pairwise (· < ·) ∧ (∀ k ∈ ks, -9223372036854775808 ≤ k ∧ k < 9223372036854775808) ∧ ks.length ≤ 1048576 ∧ ∀ k, (F [k]).isSome = true ↔ k ∈ ks
def pKeys : CallW := fun _ f args H K => match args with
 | [.fn g [] [.ref i []]] => bif Nat.beq f 40 && Nat.beq g 68 then (match H[i]? with
  | some (.box (.own j)) => match H[j]? with
   | some (.map (.one .i64) F) => ∃ ks : List Int, KeysP ks F ∧ K (.own H.length) (putH H H.length (.arr 3 1 ks.length fun i => vint .i64 (ks.getD i 0)))
   | _ => Stuck f 0 9001
  | _ => Stuck f 0 9002) else Stuck f 0 9003
 | _ => Stuck f 0 9004
theorem entsKeys {es : List MapEntry} {L : Ents} (h : EntsOf (.one .i64) es L) : es.map (·.key) = L.map fun x => encZ (x.1.headD 0) := by
 have := congrArg (List.map (·.1)) h.1
 simpa [List.map_map, Function.comp_def, KD.val] using this
theorem findE_mem {ks : List Int} : ∀ {L : Ents} {s : Nat}, (findE ks L s).isSome = true ↔ ks ∈ L.map (·.1)
 | [], s => by simp [findE]
 | (k, u) :: L, s => by
  simp only [findE, List.map_cons, List.mem_cons]
  by_cases hk : ks = k
  ·simp [hk]
  ·simp only [if_neg hk, hk, false_or]; exact findE_mem
def numV : Value → Int
 | .int _ a => a
 | _ => 0
theorem numE : ∀ l : List Int, l.map (numV ∘ encZ) = l
 | [] => rfl
 | a :: l => by rw [List.map_cons, numE l]; rfl
theorem nodup_of_map {l : List Int} (h : (l.map encZ).Nodup) : l.Nodup := by
 induction l with
 | nil => exact List.nodup_nil
 | cons a l ih =>
  simp only [List.map_cons, List.nodup_cons] at h ⊢
  exact ⟨fun hm => h.1 (List.mem_map_of_mem hm), ih h.2⟩
theorem pKeys_sound (C : Cx) (hP : C.P = Tryz.prog) : SoundC C pKeys := by
 intro f args H K h F γ w vs hS hlen hrel R hR
 unfold pKeys at h
 split at h
 ·rename_i g i
  cases hb : (Nat.beq f 40 && Nat.beq g 68) with
  | false => rw [hb] at h; exact h.elim
  | true =>
   rw [hb] at h
   simp only [cond_true] at h
   simp only [Bool.and_eq_true, Nat.beq_eq] at hb
   obtain ⟨rfl, rfl⟩ := hb
   split at h
   ·rename_i j hi
    split at h
    ·rename_i M hj
     obtain ⟨ks, ⟨hks, hrange, hsz, hmem⟩, hK⟩ := h
     match vs, hlen with
     | [v0], _ =>
     have hv := hrel 0 _ v0 rfl rfl
     cases hv with
     | many hm => cases hm
     | one _ hv =>
     cases hv with
     | fn hu hv =>
     cases hu with
     | nil =>
     cases hv with
     | @cons _ _ c1 c2 hv1 hv2 =>
     cases hv2 with
     | nil =>
     cases hv1 with
     | @ref _ _ gi b hgi hbi =>
     have hOi := hS.obj i _ gi hi hgi
     cases hOi with
     | @box _ b' c T hcell hrelc =>
     simp only [blk, Option.some.injEq] at hbi
     subst hbi
     obtain ⟨gj, hcj⟩ : ∃ gj, c.toList = [gj] ∧ γ j = some gj := by
      generalize hcl : c.toList = cl at hrelc
      cases hrelc with
      | own h1 h2 => exact ⟨_, rfl, h1⟩
     have hOj := hS.obj j _ gj hj hcj.2
     cases hOj with
     | @map _ _ b2 es ck L k1 k2 k3 =>
     obtain ⟨hst, k3⟩ := k3
     have hkeys := entsKeys k2
     have hone : ∀ x ∈ L, ∃ k, x.1 = [k] := fun x hx => by
      have := k2.2 x hx
      match hx1 : x.1, this with
      | [k], _ => exact ⟨k, rfl⟩
     have hin : ∀ k : Int, encZ k ∈ es.toList.map (·.key) ↔ k ∈ ks := by
      intro k
      rw [hkeys, ← hmem k]
      constructor
      ·intro hm
       obtain ⟨x, hx, e⟩ := List.mem_map.1 hm
       obtain ⟨k', e'⟩ := hone x hx
       rw [e'] at e
       have ek : k' = k := encZ_inj e
       subst ek
       rcases k3 [k'] rfl with ⟨q1, _⟩ | ⟨_, _, _, _, q2, _⟩
       ·have : (findE [k'] L 0).isSome = true := findE_mem.2 (List.mem_map.2 ⟨x, hx, e'⟩)
        rw [q1] at this; cases this
       ·rw [q2]; rfl
      ·intro hm
       rcases k3 [k] rfl with ⟨_, q2⟩ | ⟨_, _, _, q1, _⟩
       ·rw [q2] at hm; cases hm
       ·have : [k] ∈ L.map (·.1) := findE_mem.1 (by rw [q1]; rfl)
        obtain ⟨x, hx, e⟩ := List.mem_map.1 this
        exact List.mem_map.2 ⟨x, hx, by rw [e]; rfl⟩
     have hint : ∀ x ∈ es.toList, ∃ k, x.key = encZ k ∧ k ∈ ks := fun x hx => by
      have hm : x.key ∈ es.toList.map (·.key) := List.mem_map_of_mem hx
      have hm' := hm
      rw [hkeys] at hm
      obtain ⟨y, hy, e⟩ := List.mem_map.1 hm
      exact ⟨y.1.headD 0, e.symm, (hin _).1 (e ▸ hm')⟩
     -- the numbers of the keys
     let zs : List Int := L.map fun x => x.1.headD 0
     have hzs : es.toList.map (·.key) = zs.map encZ := by rw [hkeys]; simp [zs, List.map_map, Function.comp_def]
     have hnd : zs.Nodup := by
      have := hst.2.2
      rw [hzs] at this
      exact nodup_of_map this
     have hzm : ∀ k, k ∈ zs ↔ k ∈ ks := fun k => by
      rw [← hin k, hzs]
      exact ⟨fun h => List.mem_map_of_mem h, fun h => by obtain ⟨z, hz, e⟩ := List.mem_map.1 h; exact encZ_inj e ▸ hz⟩
     have hksnd : ks.Nodup := hks.imp (fun {a b} h => by intro e; subst e; exact Int.lt_irrefl _ h)
     have hperm : zs.Perm ks := (List.perm_ext_iff_of_nodup hnd hksnd).2 hzm
     have hessz : es.size = ks.length := by
      have := congrArg List.length hzs
      simp only [List.length_map, Array.length_toList] at this
      rw [this, hperm.length_eq]
     have hrd : ∀ x ∈ es.toList, rd Tryz.prog 3 RN x = some (.int .i64 (numV x.key), .nil) := fun x hx => by
      obtain ⟨k, e, hk⟩ := hint x hx
      have hw : (Lit.int .i64 k).wf = true := by
       have := hrange k hk
       simp only [Lit.wf, Bool.and_eq_true, decide_eq_true_eq]
       exact ⟨this.1, by have := this.2; show k ≤ 9223372036854775807; omega⟩
      have hko : keyOf Tryz.prog 3 x.key = some (.int .i64 k) := by
       rw [e]
       simp [keyOf, Tryz.underlying3, mapKey, hw]
      unfold Go.WideElems.rd
      rw [hko, e]
      rfl
     let D0 : DataW Unit := .map ((es.toList.map (Go.WideElems.rg Tryz.prog 3 RN)).foldr DataW.insert [])
     have hrg : ∀ x ∈ es.toList, Go.intOf (Go.WideElems.rg Tryz.prog 3 RN x).1 = numV x.key := fun x hx => by
      unfold Go.WideElems.rg
      rw [hrd x hx]; rfl
     have hik : (intKeys D0).Perm ks := by
      have h1 : (intKeys D0).Perm ((es.toList.map (Go.WideElems.rg Tryz.prog 3 RN)).map fun p => Go.intOf p.1) := (Go.WideShapes.sorted_perm _).map _
      have h2 : (es.toList.map (Go.WideElems.rg Tryz.prog 3 RN)).map (fun p => Go.intOf p.1) = zs := by
       rw [List.map_map]
       have h3 : es.toList.map ((fun p : Lit × DataW Unit => Go.intOf p.1) ∘ Go.WideElems.rg Tryz.prog 3 RN) = (es.toList.map (·.key)).map numV := by
        rw [List.map_map]
        exact List.map_congr_left fun x hx => by rw [Function.comp_apply, Function.comp_apply]; exact hrg x hx
       rw [h3, hzs, List.map_map]
       exact numE zs
      rw [h2] at h1
      exact h1.trans hperm
     have hsize : Maps.size D0 = ks.length := by
      have := hik.length_eq
      simpa [intKeys, D0, Maps.size] using this
     have hown : w.ownsMap Tryz.prog 3 RN b2 es.size D0 := ⟨es, ck, k1, ⟨by rw [hessz]; exact Nat.le_trans hsz (by decide), hst, fun x hx => ⟨_, hrd x hx⟩⟩, Nat.le_refl _, rfl⟩
     have hblt : b' < w.heap.size := (Array.getElem?_eq_some_iff.1 hcell).1
     have hcl : w.cell? ⟨b', 0, none⟩ = some (.map (some b2)) := by
      have : c[0]? = some (.map (some b2)) := by rw [← Array.getElem?_toList, hcj.1]; rfl
      simp [World.cell?, hcell, this]
     have hseq := AnyZI.keys_gives (P := Tryz.prog) (ρ := layK_ren) { layK with } Fence.wide 2 trivial rfl (by omega) b' b2 es.size D0 w hblt hcl hown
     have cS := AnyZI.sorted_in layS Fence.wide 5 trivial trivial trivial trivial rfl (by omega) (sortsK _) (enters_of Tryz.func34 (by kernel_rfl) rfl) 68 #[.pointer (some ⟨b', 0, none⟩)] trivial (enters_of Tryz.func68 (by kernel_rfl) rfl) _ _ (by rw [hsize]; exact Nat.le_trans hsz (by decide)) (by rw [hsize]; omega) w hseq
     change CallsIn _ _ Tryz.prog 40 _ _ _ at cS
     have cS := callsIn_wide.1 cS
     rw [hP]
     refine cS.mono ?_
     rintro e w' ⟨v, ss, rfl, hss, hrow, _, hbel⟩
     have hsorted : ss.mergeSort (fun x y => decide (x ≤ y)) = ks := by
      have p1 : (ss.mergeSort (fun x y => decide (x ≤ y))).Perm ks := (List.mergeSort_perm _ _).trans (hss.trans hik)
      have s1 : (ss.mergeSort (fun x y => decide (x ≤ y))).Pairwise (· ≤ ·) := (List.pairwise_mergeSort (le := fun x y : Int => decide (x ≤ y)) (by intro a b c h1 h2; simp only [decide_eq_true_eq] at *; omega) (by intro a b; simp only [Bool.or_eq_true, decide_eq_true_eq]; omega) ss).imp fun h => by simpa using h
      have s2 : ks.Pairwise (· ≤ ·) := hks.imp fun h => Int.le_of_lt h
      exact List.Perm.eq_of_pairwise (fun a b _ _ h1 h2 => Int.le_antisymm h1 h2) s1 s2 p1
     have hl : ss.length = ks.length := (hss.trans hik).length_eq
     rw [hsorted, hl] at hrow
     have hO : RelO F (updG γ H.length v) w' (.arr 3 1 ks.length fun i => vint .i64 (ks.getD i 0)) v := by
      rcases hrow.2 with ⟨rfl, h0⟩ | ⟨gb, cap, cur, rfl, q1, q2, q3, q4, q5, q6⟩
      ·rw [h0]; exact .arr0
      ·refine .arr q2 q3 q4 q5 fun i hi => ?_
       have hd : (cur.toList.drop (i * 1)).take 1 = [encZ (ks.getD i 0)] := by
        have hlen2 : i < (ks.map encZ).length := by simpa using hi
        rw [Nat.mul_one] at q6 ⊢
        have e2 : cur.toList[i]? = some (encZ (ks.getD i 0)) := by
         have : (cur.toList.take ks.length)[i]? = (ks.map encZ)[i]? := by rw [q6]
         rw [List.getElem?_take, if_pos hi, List.getElem?_map, List.getElem?_eq_getElem hi] at this
         rw [this]
         simp [List.getD_eq_getElem?_getD, List.getElem?_eq_getElem hi]
        obtain ⟨hi2, e3⟩ := List.getElem?_eq_some_iff.1 e2
        rw [List.drop_eq_getElem_cons hi2, List.take_succ_cons, List.take_zero, e3]
       rw [hd]
       exact .p (.v rfl)
     have hG : Grew w w' := ⟨hbel.os, hbel.tape, hbel.output, hbel.size, hbel.block⟩
     have hfree : isFree H H.length = true := by unfold isFree; rw [List.getElem?_eq_none (Nat.le_refl _)]
     have hpush := hS.push (o := .arr 3 1 ks.length fun i => vint .i64 (ks.getD i 0)) (g := v) hfree (fun e => by cases e) hG (fun q hq => by
      rcases hrow.2 with ⟨rfl, _⟩ | ⟨gb, cap, cur, rfl, q1, q2, _⟩
      ·cases hq
      ·simp only [blk, Option.some.injEq] at hq
       subst hq
       exact ⟨q1, (Array.getElem?_eq_some_iff.1 q2).1⟩) hO
     exact hR _ _ _ F _ w' hK hpush (.one rfl (.own upd_self (by
      rcases hrow.2 with ⟨rfl, _⟩ | ⟨gb, cap, cur, rfl, _⟩ <;> rfl))) (fun _ _ h => h) (upd_old (isFree_none hS hfree))
    ·exact h.elim
   ·exact h.elim
 ·exact h.elim
end Go.Proofs.YtekhlnihpfkkkaaGreatDoor
namespace Go.Proofs.YtekhlnihpfkkkaaGreatDoor
open Go.Eng
def hUs : FuncId → FH := fun f => bif Nat.beq f 17 then { rounds := 60, reg := fun _ => { g := 1, lit := true }, fr := [4] } else { rounds := 60, reg := fun _ => { g := 1, lit := true } }
set_option maxRecDepth 100000 in
theorem used2_ok : Pure Tryz.prog 17 [eFn exF, eI 2] (.p (eIs [1, 2])) := by
 let K : D → Prop := fun d => endL (.p (eIs [1, 2])) d []
 refine pure_byC (WTop_sound (h := hUs) (plug_sound (g := 40) pKeys_sound (WCall_sound Tryz.prog 0 hUs 20))) (p :=
  ∃ (ks : List Int), (List.Pairwise (fun (x1 x2 : Int) => x1 < x2) ks ∧ (∀ (k : Int), List.Mem k ks → (-9223372036854775808 : Int) ≤ k ∧ k < (9223372036854775808 : Int)) ∧ ks.length ≤ 1048576 ∧ ∀ (k : Int), (setMap (setMap (fun (x : List Int) => none) [Int.ofNat 2] (PV.v (Value.bool true))) [Int.ofNat 1] (PV.v (Value.bool true)) [k]).isSome = true ↔ k ∈ ks) ∧ (∀ (j : Nat), let a2_0 : D := vint IntKind.i64 (ks.getD j (0 : Int)); j < ks.length → a2_0 = D.p a2_0.unP) ∧ K (D.p (PV.lst 1 ks.length fun (j : Nat) => (vint IntKind.i64 (ks.getD j (0 : Int))).unP))) (by kernel_rfl) ?_
 refine ⟨[1, 2], ⟨by simp, fun k hk => ?_, by decide, fun k => ?_⟩, fun j hj => ?_, ?_⟩
 ·have hk : k ∈ [(1 : Int), 2] := hk
  simp only [List.mem_cons, List.not_mem_nil, or_false] at hk; omega
 ·show (setMap (setMap (fun _ => none) [2] (.v (.bool true))) [1] (.v (.bool true)) [k]).isSome = true ↔ _
  simp only [setMap, List.mem_cons, List.not_mem_nil, or_false]
  by_cases h1 : k = 1
  ·subst h1; simp
  ·by_cases h2 : k = 2
   ·subst h2; simp
   ·have e1 : (k == 1) = false := by simpa using h1
    have e2 : (k == 2) = false := by simpa using h2
    simp [h1, h2, e1, e2]
 ·rfl
 ·exact ⟨rfl, fun j hj => rfl⟩
set_option maxRecDepth 100000 in
theorem used3_ok : Pure Tryz.prog 17 [eFn exF, eI 3] (.p (eIs [])) := by
 let K : D → Prop := fun d => endL (.p (eIs [])) d []
 refine pure_byL 20 hUs (p :=
  K (D.p (PV.v (Value.slice none 0 0)))) (by kernel_rfl) ?_
 exact rfl
end Go.Proofs.YtekhlnihpfkkkaaGreatDoor
namespace Go.Proofs.YtekhlnihpfkkkaaGreatDoor
open Go.Eng
def hp1 (n : Int) : List Tn := [(10, n, 0), (8, 0, 0), (12, n, 0)]
def hp2 (n : Int) : List Tn := [(9, 0, 0), (1, 8, 0), (3, 0, 0), (14, 3, 0), (11, n, 0), (8, 0, 0), (13, n, 0)]
def hp3 (n : Int) : List Tn := [(15, 2, 4), (11, n, 0), (1, 16, 0), (2, 0, 0), (13, n, 0)]
def eRch (r : List Int) : PV := .lst 1 r.length fun j => (nthD (r.map fun x => vint .i64 x) j).unP
def eFacts (c d : Int) (r : List Int) : PV := .agg [eI c, eI d, eRch r]
def pcVer : FuncId → List PV → Option D := fun f ar => bif Nat.beq f 57 then (match ar with
  | [.agg [.v (.int _ c), _, _]] => some (vbool (decide (10 ≤ c) && decide (c ≤ 13)))
  | _ => none) else bif Nat.beq f 35 then (match ar with
  | [x] => some (.p x)
  | _ => none) else none
def rgVer (f r : Nat) : RH :=
 bif Nat.beq f 10 && Nat.beq r 12 then { g := 1, frz := [6] }
 else bif Nat.beq f 33 && Nat.beq r 19 then { sh := none, g := 1, hs := [(5, vbool false), (13, vbool false)] }
 else bif Nat.beq f 33 && Nat.beq r 24 then { g := 1, zo := [(1, [1])] }
 else bif Nat.beq f 33 && Nat.beq r 25 then { g := 1, zo := [(1, [2])] }
 else bif Nat.beq f 33 && Nat.beq r 27 then { g := 1, za := List.range 40 }
 else { g := 1 }
def hVer : FuncId → FH := fun f => { rounds := 10, pc := pcVer, reg := rgVer f }
set_option maxRecDepth 100000 in
theorem compact_ok (f : Nat → PV) : Pure Tryz.prog 35 [.lst 1 1 f] (.p (.lst 1 1 f)) := by
 let K : KV := endP (.p (.lst 1 1 f))
 refine pure_by 20 hVer (p :=
  K (D.p (PV.lst 1 1 f)) []) (by kernel_rfl) ?_
 exact endP_lst (H := []) rfl fun _ _ => rfl
set_option maxRecDepth 100000 in
theorem compact_nil : Pure Tryz.prog 35 [.v (.slice none 0 0)] (.p (.v (.slice none 0 0))) := by
 let K : KV := endP (.p (.v (.slice none 0 0)))
 refine pure_by 20 hVer (p :=
  K (D.p (PV.v (Value.slice none 0 0))) []) (by kernel_rfl) ?_
 exact (rfl : (D.p (.v (.slice none 0 0))) = _)
set_option maxRecDepth 100000 in
theorem verify1_ok (n points : Int) (h0 : 0 ≤ n) (h1 : n < points) : Pure Tryz.prog 10 [eTs (hp1 n), eI points] (.tup [.p (eFacts 3 1 [n]), vint .i64 0]) := by
 let K : KV := endP (.tup [.p (eFacts 3 1 [n]), vint .i64 0])
 refine pure_by 20 hVer (p :=
  let a0_31 : PV := PV.v (Value.int IntKind.i64 (0 : Int)); let a0_30 : PV := PV.v (Value.int IntKind.i64 (1 : Int)); let a0_29 : PV := PV.v (Value.int IntKind.i64 (Int.ofNat 1)); let a0_28 : Tn := (hp1 n).getD 0 tn0; let a0_27 : Tn := (hp1 n).getD 2 tn0; let a0_26 : Tn := (hp1 n).getD 1 tn0; let a0_25 : List PV := [a0_30]; let a0_24 : Int × Int := a0_26.snd; let a0_23 : Int := a0_28.fst; let a0_22 : Int × Int := a0_27.snd; let a0_21 : Int := a0_27.fst; let a0_20 : Int := a0_26.fst; let a0_19 : Int × Int := a0_28.snd; let a0_18 : Int := a0_22.fst; let a0_17 : Int := a0_24.fst; let a0_16 : Int := a0_19.fst; let a0_15 : PV := PV.v (Value.int IntKind.i64 a0_18); let a0_14 : List UInt8 := [(101 : UInt8), (116 : UInt8), (120 : UInt8)]; let a0_13 : List D := [D.p a0_15]; let a0_12 : PV := PV.lst 1 1 fun (j : Nat) => (nthD a0_13 j).unP; let a0_11 : D := D.p a0_12; let a0_10 : List PV := [a0_12]; let a0_9 : O := O.box (D.p (PV.agg [PV.s ((115 : UInt8) :: a0_14), PV.v (Value.bool true), PV.v (Value.bool false), a0_30, a0_31])); let a0_8 : O := O.box (D.p (PV.agg (PV.s ((103 : UInt8) :: a0_14) :: PV.v (Value.bool true) :: PV.v (Value.bool false) :: a0_31 :: a0_25))); let a0_7 : PV := PV.agg [PV.v (Value.int IntKind.i64 a0_21), a0_15, PV.v (Value.int IntKind.i64 a0_22.snd)]; let a0_6 : D := D.p (PV.agg (PV.v (Value.int IntKind.i64 (Int.ofNat 3)) :: a0_29 :: a0_10)); let a0_5 : PV := PV.agg [PV.v (Value.int IntKind.i64 a0_23), PV.v (Value.int IntKind.i64 a0_16), PV.v (Value.int IntKind.i64 a0_19.snd)]; let a0_4 : PV := PV.agg [PV.v (Value.int IntKind.i64 a0_20), PV.v (Value.int IntKind.i64 a0_17), PV.v (Value.int IntKind.i64 a0_24.snd)]; let a0_3 : O := O.box (D.p a0_7); let a0_2 : O := O.box (D.p a0_4); let a0_1 : O := O.box (D.p a0_5); let a0_0 : O := O.box (D.p (PV.agg (PV.s [(114 : UInt8), (111 : UInt8), (117 : UInt8), (110 : UInt8), (100 : UInt8)] :: PV.v (Value.bool false) :: PV.v (Value.bool false) :: a0_30 :: a0_25))); Eng.Pure Tryz.prog 57 [a0_5] (vbool (decide ((10 : Int) ≤ a0_23) && decide (a0_23 ≤ (13 : Int)))) ∧ ((decide ((10 : Int) ≤ a0_23) && decide (a0_23 ≤ (13 : Int))) = true → (decide ((10 : Int) ≤ a0_23) && decide (a0_23 ≤ (13 : Int))) = true) ∧ ((decide ((10 : Int) ≤ a0_23) && decide (a0_23 ≤ (13 : Int))) = true → (decide ((10 : Int) ≤ a0_23) && decide (a0_23 ≤ (13 : Int))) = true) ∧ ((decide ((10 : Int) ≤ a0_23) && decide (a0_23 ≤ (13 : Int))) = true → decide (a0_16 < (0 : Int)) = false) ∧ ((decide ((10 : Int) ≤ a0_23) && decide (a0_23 ≤ (13 : Int))) = true → (decide ((10 : Int) ≤ a0_23) && decide (a0_23 ≤ (13 : Int))) = true) ∧ ((decide ((10 : Int) ≤ a0_23) && decide (a0_23 ≤ (13 : Int)) && !false) = true → (decide ((10 : Int) ≤ a0_23) && decide (a0_23 ≤ (13 : Int)) && !false) = true) ∧ ((decide ((10 : Int) ≤ a0_23) && decide (a0_23 ≤ (13 : Int)) && !false) = true → (decide ((10 : Int) ≤ a0_23) && decide (a0_23 ≤ (13 : Int)) && !false) = true) ∧ ((decide ((10 : Int) ≤ a0_23) && decide (a0_23 ≤ (13 : Int)) && !false) = true → (decide ((10 : Int) ≤ a0_23) && decide (a0_23 ≤ (13 : Int)) && !false) = true) ∧ ((decide ((10 : Int) ≤ a0_23) && decide (a0_23 ≤ (13 : Int)) && !false) = true → (decide ((10 : Int) ≤ a0_23) && decide (a0_23 ≤ (13 : Int)) && !false) = true) ∧ ((decide ((10 : Int) ≤ a0_23) && decide (a0_23 ≤ (13 : Int)) && !false) = true → (decide ((10 : Int) ≤ a0_23) && decide (a0_23 ≤ (13 : Int)) && !false) = true) ∧ ((decide ((10 : Int) ≤ a0_23) && decide (a0_23 ≤ (13 : Int)) && !false) = true → (decide ((10 : Int) ≤ a0_23) && decide (a0_23 ≤ (13 : Int)) && !false) = true) ∧ ((decide ((10 : Int) ≤ a0_23) && decide (a0_23 ≤ (13 : Int)) && !false) = true → decide (points ≤ a0_16) = false) ∧ ((decide ((10 : Int) ≤ a0_23) && decide (a0_23 ≤ (13 : Int))) = true → (decide ((10 : Int) ≤ a0_23) && decide (a0_23 ≤ (13 : Int))) = true → (decide ((10 : Int) ≤ a0_23) && decide (a0_23 ≤ (13 : Int))) = true) ∧ ((decide ((10 : Int) ≤ a0_23) && decide (a0_23 ≤ (13 : Int)) && !false) = true → (decide ((10 : Int) ≤ a0_23) && decide (a0_23 ≤ (13 : Int)) && !false) = true) ∧ ((decide ((10 : Int) ≤ a0_23) && decide (a0_23 ≤ (13 : Int))) = true → (decide ((10 : Int) ≤ a0_23) && decide (a0_23 ≤ (13 : Int))) = true) ∧ Eng.Pure Tryz.prog 57 [a0_4] (vbool (decide ((10 : Int) ≤ a0_20) && decide (a0_20 ≤ (13 : Int)))) ∧ ((decide ((10 : Int) ≤ a0_20) && decide (a0_20 ≤ (13 : Int))) = true → (decide ((10 : Int) ≤ a0_20) && decide (a0_20 ≤ (13 : Int))) = true) ∧ ((decide ((10 : Int) ≤ a0_20) && decide (a0_20 ≤ (13 : Int))) = true → (decide ((10 : Int) ≤ a0_20) && decide (a0_20 ≤ (13 : Int))) = true) ∧ ((decide ((10 : Int) ≤ a0_20) && decide (a0_20 ≤ (13 : Int))) = true → decide (a0_17 < (0 : Int)) = false) ∧ ((decide ((10 : Int) ≤ a0_20) && decide (a0_20 ≤ (13 : Int))) = true → (decide ((10 : Int) ≤ a0_20) && decide (a0_20 ≤ (13 : Int))) = true) ∧ ((decide ((10 : Int) ≤ a0_20) && decide (a0_20 ≤ (13 : Int)) && !false) = true → (decide ((10 : Int) ≤ a0_20) && decide (a0_20 ≤ (13 : Int)) && !false) = true) ∧ ((decide ((10 : Int) ≤ a0_20) && decide (a0_20 ≤ (13 : Int)) && !false) = true → (decide ((10 : Int) ≤ a0_20) && decide (a0_20 ≤ (13 : Int)) && !false) = true) ∧ ((decide ((10 : Int) ≤ a0_20) && decide (a0_20 ≤ (13 : Int)) && !false) = true → (decide ((10 : Int) ≤ a0_20) && decide (a0_20 ≤ (13 : Int)) && !false) = true) ∧ ((decide ((10 : Int) ≤ a0_20) && decide (a0_20 ≤ (13 : Int)) && !false) = true → (decide ((10 : Int) ≤ a0_20) && decide (a0_20 ≤ (13 : Int)) && !false) = true) ∧ ((decide ((10 : Int) ≤ a0_20) && decide (a0_20 ≤ (13 : Int)) && !false) = true → (decide ((10 : Int) ≤ a0_20) && decide (a0_20 ≤ (13 : Int)) && !false) = true) ∧ ((decide ((10 : Int) ≤ a0_20) && decide (a0_20 ≤ (13 : Int)) && !false) = true → (decide ((10 : Int) ≤ a0_20) && decide (a0_20 ≤ (13 : Int)) && !false) = true) ∧ ((decide ((10 : Int) ≤ a0_20) && decide (a0_20 ≤ (13 : Int)) && !false) = true → decide (points ≤ a0_17) = false) ∧ ((decide ((10 : Int) ≤ a0_20) && decide (a0_20 ≤ (13 : Int))) = true → (decide ((10 : Int) ≤ a0_20) && decide (a0_20 ≤ (13 : Int))) = true → (decide ((10 : Int) ≤ a0_20) && decide (a0_20 ≤ (13 : Int))) = true) ∧ ((decide ((10 : Int) ≤ a0_20) && decide (a0_20 ≤ (13 : Int)) && !false) = true → (decide ((10 : Int) ≤ a0_20) && decide (a0_20 ≤ (13 : Int)) && !false) = true) ∧ ((decide ((10 : Int) ≤ a0_20) && decide (a0_20 ≤ (13 : Int))) = true → (decide ((10 : Int) ≤ a0_20) && decide (a0_20 ≤ (13 : Int))) = true) ∧ Eng.Pure Tryz.prog 57 [a0_7] (vbool (decide ((10 : Int) ≤ a0_21) && decide (a0_21 ≤ (13 : Int)))) ∧ ((decide ((10 : Int) ≤ a0_21) && decide (a0_21 ≤ (13 : Int))) = true → (decide ((10 : Int) ≤ a0_21) && decide (a0_21 ≤ (13 : Int))) = true) ∧ ((decide ((10 : Int) ≤ a0_21) && decide (a0_21 ≤ (13 : Int))) = true → (decide ((10 : Int) ≤ a0_21) && decide (a0_21 ≤ (13 : Int))) = true) ∧ ((decide ((10 : Int) ≤ a0_21) && decide (a0_21 ≤ (13 : Int))) = true → decide (a0_18 < (0 : Int)) = false) ∧ ((decide ((10 : Int) ≤ a0_21) && decide (a0_21 ≤ (13 : Int))) = true → (decide ((10 : Int) ≤ a0_21) && decide (a0_21 ≤ (13 : Int))) = true) ∧ ((decide ((10 : Int) ≤ a0_21) && decide (a0_21 ≤ (13 : Int)) && !false) = true → (decide ((10 : Int) ≤ a0_21) && decide (a0_21 ≤ (13 : Int)) && !false) = true) ∧ ((decide ((10 : Int) ≤ a0_21) && decide (a0_21 ≤ (13 : Int)) && !false) = true → (decide ((10 : Int) ≤ a0_21) && decide (a0_21 ≤ (13 : Int)) && !false) = true) ∧ ((decide ((10 : Int) ≤ a0_21) && decide (a0_21 ≤ (13 : Int)) && !false) = true → (decide ((10 : Int) ≤ a0_21) && decide (a0_21 ≤ (13 : Int)) && !false) = true) ∧ ((decide ((10 : Int) ≤ a0_21) && decide (a0_21 ≤ (13 : Int)) && !false) = true → (decide ((10 : Int) ≤ a0_21) && decide (a0_21 ≤ (13 : Int)) && !false) = true) ∧ ((decide ((10 : Int) ≤ a0_21) && decide (a0_21 ≤ (13 : Int)) && !false) = true → (decide ((10 : Int) ≤ a0_21) && decide (a0_21 ≤ (13 : Int)) && !false) = true) ∧ ((decide ((10 : Int) ≤ a0_21) && decide (a0_21 ≤ (13 : Int)) && !false) = true → (decide ((10 : Int) ≤ a0_21) && decide (a0_21 ≤ (13 : Int)) && !false) = true) ∧ ((decide ((10 : Int) ≤ a0_21) && decide (a0_21 ≤ (13 : Int)) && !false) = true → decide (points ≤ a0_18) = false) ∧ ((decide ((10 : Int) ≤ a0_21) && decide (a0_21 ≤ (13 : Int))) = true → (decide ((10 : Int) ≤ a0_21) && decide (a0_21 ≤ (13 : Int))) = true → (decide ((10 : Int) ≤ a0_21) && decide (a0_21 ≤ (13 : Int))) = true) ∧ ((decide ((10 : Int) ≤ a0_21) && decide (a0_21 ≤ (13 : Int)) && !false) = true → (decide ((10 : Int) ≤ a0_21) && decide (a0_21 ≤ (13 : Int)) && !false) = true) ∧ ((decide ((10 : Int) ≤ a0_21) && decide (a0_21 ≤ (13 : Int))) = true → (decide ((10 : Int) ≤ a0_21) && decide (a0_21 ≤ (13 : Int))) = true) ∧ (∀ (j : Nat), j < 1 → nthD a0_13 j = D.p (nthD a0_13 j).unP) ∧ Eng.Pure Tryz.prog 35 a0_10 a0_11 ∧ K (D.tup [a0_6, D.p a0_31]) [O.box a0_6, O.box (mkAgg [D.p (PV.v (Value.int IntKind.i64 points)), D.p (PV.v (Value.int IntKind.i64 (Int.ofNat 0))), D.p a0_29, a0_11]), a0_1, a0_1, a0_8, a0_8, a0_2, a0_2, a0_0, a0_0, a0_3, a0_3, a0_9, a0_9, O.arr 3 1 1 (nthD a0_13), O.dead]) (by kernel_rfl) ?_
 have e0 : decide (n < 0) = false := by simp; omega
 have e1 : decide (points ≤ n) = false := by simp; omega
 have hK : ∀ H, K (.tup [.p (eFacts 3 1 [n]), vint .i64 0]) H := fun H => ⟨rfl, rfl, trivial⟩
 repeat' first | exact point_ok _ _ _ | exact hK _ | exact compact_ok _ | exact fun h => h | exact fun _ => e0 | exact fun _ => e1 | exact fun _ h => h | exact fun h => Bool.noConfusion (show false = true from h) | exact fun j hj => (match j, hj with | 0, _ => rfl) | refine And.intro ?_ ?_
set_option maxRecDepth 100000 in
theorem verify2_ok (n points : Int) (h0 : 0 ≤ n) (h1 : n < points) : Pure Tryz.prog 10 [eTs (hp2 n), eI points] (.tup [.p (eFacts 7 2 [n]), vint .i64 0]) := by
 let K : KV := endP (.tup [.p (eFacts 7 2 [n]), vint .i64 0])
 refine pure_by 20 hVer (p :=
  let a0_59 : Tn := (hp2 n).getD 1 tn0; let a0_58 : Tn := (hp2 n).getD 5 tn0; let a0_57 : Tn := (hp2 n).getD 6 tn0; let a0_56 : Tn := (hp2 n).getD 4 tn0; let a0_55 : Tn := (hp2 n).getD 2 tn0; let a0_54 : Tn := (hp2 n).getD 3 tn0; let a0_53 : Tn := (hp2 n).getD 0 tn0; let a0_52 : List PV := [PV.v (Value.int IntKind.i64 (1 : Int))]; let a0_51 : Int := a0_56.fst; let a0_50 : Int × Int := a0_55.snd; let a0_49 : Int × Int := a0_53.snd; let a0_48 : Int × Int := a0_59.snd; let a0_47 : Int := a0_54.fst; let a0_46 : Int × Int := a0_57.snd; let a0_45 : Int := a0_55.fst; let a0_44 : Int := a0_58.fst; let a0_43 : Int := a0_53.fst; let a0_42 : Int × Int := a0_56.snd; let a0_41 : Int × Int := a0_54.snd; let a0_40 : Int := a0_57.fst; let a0_39 : Int := a0_59.fst; let a0_38 : Int × Int := a0_58.snd; let a0_37 : Int := a0_41.fst; let a0_36 : Int := a0_48.fst; let a0_35 : Int := a0_46.fst; let a0_34 : Int := a0_38.fst; let a0_33 : Int := a0_42.fst; let a0_32 : Int := a0_50.fst; let a0_31 : Int := a0_49.fst; let a0_30 : PV := PV.v (Value.int IntKind.i64 a0_35); let a0_29 : List UInt8 := [(101 : UInt8), (116 : UInt8), (121 : UInt8)]; let a0_28 : List D := [D.p a0_30]; let a0_27 : List PV := PV.v (Value.bool false) :: PV.v (Value.int IntKind.i64 (0 : Int)) :: a0_52; let a0_26 : List PV := PV.v (Value.bool true) :: a0_27; let a0_25 : List PV := [PV.v (Value.bool true), PV.v (Value.bool false), PV.v (Value.int IntKind.i64 (1 : Int)), PV.v (Value.int IntKind.i64 (0 : Int))]; let a0_24 : PV := PV.lst 1 1 fun (j : Nat) => (nthD a0_28 j).unP; let a0_23 : D := D.p a0_24; let a0_22 : List PV := [a0_24]; let a0_21 : O := O.box (D.p (PV.agg (PV.s [(105 : UInt8), (102 : UInt8)] :: a0_25))); let a0_20 : O := O.box (D.p (PV.agg (PV.s [(115 : UInt8), (117 : UInt8), (98 : UInt8)] :: PV.v (Value.bool false) :: PV.v (Value.bool false) :: PV.v (Value.int IntKind.i64 (2 : Int)) :: a0_52))); let a0_19 : O := O.box (D.p (PV.agg (PV.s ((103 : UInt8) :: a0_29) :: a0_26))); let a0_18 : O := O.box (D.p (PV.agg (PV.s ((115 : UInt8) :: a0_29) :: a0_25))); let a0_17 : O := O.box (D.p (PV.agg (PV.s [(115 : UInt8), (105 : UInt8), (122 : UInt8), (101 : UInt8)] :: PV.v (Value.bool false) :: a0_27))); let a0_16 : O := O.box (D.p (PV.agg (PV.s [(112 : UInt8), (117 : UInt8), (115 : UInt8), (104 : UInt8)] :: a0_26))); let a0_15 : PV := PV.agg [PV.v (Value.int IntKind.i64 a0_47), PV.v (Value.int IntKind.i64 a0_37), PV.v (Value.int IntKind.i64 a0_41.snd)]; let a0_14 : PV := PV.agg [PV.v (Value.int IntKind.i64 a0_44), PV.v (Value.int IntKind.i64 a0_34), PV.v (Value.int IntKind.i64 a0_38.snd)]; let a0_13 : PV := PV.agg [PV.v (Value.int IntKind.i64 a0_39), PV.v (Value.int IntKind.i64 a0_36), PV.v (Value.int IntKind.i64 a0_48.snd)]; let a0_12 : PV := PV.agg [PV.v (Value.int IntKind.i64 a0_43), PV.v (Value.int IntKind.i64 a0_31), PV.v (Value.int IntKind.i64 a0_49.snd)]; let a0_11 : PV := PV.agg [PV.v (Value.int IntKind.i64 a0_45), PV.v (Value.int IntKind.i64 a0_32), PV.v (Value.int IntKind.i64 a0_50.snd)]; let a0_10 : PV := PV.agg [PV.v (Value.int IntKind.i64 a0_51), PV.v (Value.int IntKind.i64 a0_33), PV.v (Value.int IntKind.i64 a0_42.snd)]; let a0_9 : PV := PV.agg [PV.v (Value.int IntKind.i64 a0_40), a0_30, PV.v (Value.int IntKind.i64 a0_46.snd)]; let a0_8 : D := D.p (PV.agg (PV.v (Value.int IntKind.i64 (Int.ofNat 7)) :: PV.v (Value.int IntKind.i64 (Int.ofNat 2)) :: a0_22)); let a0_7 : O := O.box (D.p a0_12); let a0_6 : O := O.box (D.p a0_13); let a0_5 : O := O.box (D.p a0_9); let a0_4 : O := O.box (D.p a0_14); let a0_3 : O := O.box (D.p a0_15); let a0_2 : O := O.box (D.p a0_11); let a0_1 : O := O.box (D.p a0_10); let a0_0 : O := O.box (D.p (PV.agg (PV.s [(114 : UInt8), (111 : UInt8), (117 : UInt8), (110 : UInt8), (100 : UInt8)] :: PV.v (Value.bool false) :: PV.v (Value.bool false) :: PV.v (Value.int IntKind.i64 (1 : Int)) :: a0_52))); Eng.Pure Tryz.prog 57 [a0_12] (vbool (decide ((10 : Int) ≤ a0_43) && decide (a0_43 ≤ (13 : Int)))) ∧ ((decide ((10 : Int) ≤ a0_43) && decide (a0_43 ≤ (13 : Int))) = true → (decide ((10 : Int) ≤ a0_43) && decide (a0_43 ≤ (13 : Int))) = true) ∧ ((decide ((10 : Int) ≤ a0_43) && decide (a0_43 ≤ (13 : Int))) = true → (decide ((10 : Int) ≤ a0_43) && decide (a0_43 ≤ (13 : Int))) = true) ∧ ((decide ((10 : Int) ≤ a0_43) && decide (a0_43 ≤ (13 : Int))) = true → decide (a0_31 < (0 : Int)) = false) ∧ ((decide ((10 : Int) ≤ a0_43) && decide (a0_43 ≤ (13 : Int))) = true → (decide ((10 : Int) ≤ a0_43) && decide (a0_43 ≤ (13 : Int))) = true) ∧ ((decide ((10 : Int) ≤ a0_43) && decide (a0_43 ≤ (13 : Int)) && !false) = true → (decide ((10 : Int) ≤ a0_43) && decide (a0_43 ≤ (13 : Int)) && !false) = true) ∧ ((decide ((10 : Int) ≤ a0_43) && decide (a0_43 ≤ (13 : Int)) && !false) = true → (decide ((10 : Int) ≤ a0_43) && decide (a0_43 ≤ (13 : Int)) && !false) = true) ∧ ((decide ((10 : Int) ≤ a0_43) && decide (a0_43 ≤ (13 : Int)) && !false) = true → (decide ((10 : Int) ≤ a0_43) && decide (a0_43 ≤ (13 : Int)) && !false) = true) ∧ ((decide ((10 : Int) ≤ a0_43) && decide (a0_43 ≤ (13 : Int)) && !false) = true → (decide ((10 : Int) ≤ a0_43) && decide (a0_43 ≤ (13 : Int)) && !false) = true) ∧ ((decide ((10 : Int) ≤ a0_43) && decide (a0_43 ≤ (13 : Int)) && !false) = true → (decide ((10 : Int) ≤ a0_43) && decide (a0_43 ≤ (13 : Int)) && !false) = true) ∧ ((decide ((10 : Int) ≤ a0_43) && decide (a0_43 ≤ (13 : Int)) && !false) = true → (decide ((10 : Int) ≤ a0_43) && decide (a0_43 ≤ (13 : Int)) && !false) = true) ∧ ((decide ((10 : Int) ≤ a0_43) && decide (a0_43 ≤ (13 : Int)) && !false) = true → decide (points ≤ a0_31) = false) ∧ ((decide ((10 : Int) ≤ a0_43) && decide (a0_43 ≤ (13 : Int))) = true → (decide ((10 : Int) ≤ a0_43) && decide (a0_43 ≤ (13 : Int))) = true → (decide ((10 : Int) ≤ a0_43) && decide (a0_43 ≤ (13 : Int))) = true) ∧ ((decide ((10 : Int) ≤ a0_43) && decide (a0_43 ≤ (13 : Int)) && !false) = true → (decide ((10 : Int) ≤ a0_43) && decide (a0_43 ≤ (13 : Int)) && !false) = true) ∧ ((decide ((10 : Int) ≤ a0_43) && decide (a0_43 ≤ (13 : Int))) = true → (decide ((10 : Int) ≤ a0_43) && decide (a0_43 ≤ (13 : Int))) = true) ∧ Eng.Pure Tryz.prog 57 [a0_13] (vbool (decide ((10 : Int) ≤ a0_39) && decide (a0_39 ≤ (13 : Int)))) ∧ ((decide ((10 : Int) ≤ a0_39) && decide (a0_39 ≤ (13 : Int))) = true → (decide ((10 : Int) ≤ a0_39) && decide (a0_39 ≤ (13 : Int))) = true) ∧ ((decide ((10 : Int) ≤ a0_39) && decide (a0_39 ≤ (13 : Int))) = true → (decide ((10 : Int) ≤ a0_39) && decide (a0_39 ≤ (13 : Int))) = true) ∧ ((decide ((10 : Int) ≤ a0_39) && decide (a0_39 ≤ (13 : Int))) = true → decide (a0_36 < (0 : Int)) = false) ∧ ((decide ((10 : Int) ≤ a0_39) && decide (a0_39 ≤ (13 : Int))) = true → (decide ((10 : Int) ≤ a0_39) && decide (a0_39 ≤ (13 : Int))) = true) ∧ ((decide ((10 : Int) ≤ a0_39) && decide (a0_39 ≤ (13 : Int)) && !false) = true → (decide ((10 : Int) ≤ a0_39) && decide (a0_39 ≤ (13 : Int)) && !false) = true) ∧ ((decide ((10 : Int) ≤ a0_39) && decide (a0_39 ≤ (13 : Int)) && !false) = true → (decide ((10 : Int) ≤ a0_39) && decide (a0_39 ≤ (13 : Int)) && !false) = true) ∧ ((decide ((10 : Int) ≤ a0_39) && decide (a0_39 ≤ (13 : Int)) && !false) = true → (decide ((10 : Int) ≤ a0_39) && decide (a0_39 ≤ (13 : Int)) && !false) = true) ∧ ((decide ((10 : Int) ≤ a0_39) && decide (a0_39 ≤ (13 : Int)) && !false) = true → (decide ((10 : Int) ≤ a0_39) && decide (a0_39 ≤ (13 : Int)) && !false) = true) ∧ ((decide ((10 : Int) ≤ a0_39) && decide (a0_39 ≤ (13 : Int)) && !false) = true → (decide ((10 : Int) ≤ a0_39) && decide (a0_39 ≤ (13 : Int)) && !false) = true) ∧ ((decide ((10 : Int) ≤ a0_39) && decide (a0_39 ≤ (13 : Int)) && !false) = true → (decide ((10 : Int) ≤ a0_39) && decide (a0_39 ≤ (13 : Int)) && !false) = true) ∧ ((decide ((10 : Int) ≤ a0_39) && decide (a0_39 ≤ (13 : Int)) && !false) = true → decide (points ≤ a0_36) = false) ∧ ((decide ((10 : Int) ≤ a0_39) && decide (a0_39 ≤ (13 : Int))) = true → (decide ((10 : Int) ≤ a0_39) && decide (a0_39 ≤ (13 : Int))) = true → (decide ((10 : Int) ≤ a0_39) && decide (a0_39 ≤ (13 : Int))) = true) ∧ ((decide ((10 : Int) ≤ a0_39) && decide (a0_39 ≤ (13 : Int)) && !false) = true → (decide ((10 : Int) ≤ a0_39) && decide (a0_39 ≤ (13 : Int)) && !false) = true) ∧ ((decide ((10 : Int) ≤ a0_39) && decide (a0_39 ≤ (13 : Int))) = true → (decide ((10 : Int) ≤ a0_39) && decide (a0_39 ≤ (13 : Int))) = true) ∧ Eng.Pure Tryz.prog 57 [a0_11] (vbool (decide ((10 : Int) ≤ a0_45) && decide (a0_45 ≤ (13 : Int)))) ∧ ((decide ((10 : Int) ≤ a0_45) && decide (a0_45 ≤ (13 : Int))) = true → (decide ((10 : Int) ≤ a0_45) && decide (a0_45 ≤ (13 : Int))) = true) ∧ ((decide ((10 : Int) ≤ a0_45) && decide (a0_45 ≤ (13 : Int))) = true → (decide ((10 : Int) ≤ a0_45) && decide (a0_45 ≤ (13 : Int))) = true) ∧ ((decide ((10 : Int) ≤ a0_45) && decide (a0_45 ≤ (13 : Int))) = true → decide (a0_32 < (0 : Int)) = false) ∧ ((decide ((10 : Int) ≤ a0_45) && decide (a0_45 ≤ (13 : Int))) = true → (decide ((10 : Int) ≤ a0_45) && decide (a0_45 ≤ (13 : Int))) = true) ∧ ((decide ((10 : Int) ≤ a0_45) && decide (a0_45 ≤ (13 : Int)) && !false) = true → (decide ((10 : Int) ≤ a0_45) && decide (a0_45 ≤ (13 : Int)) && !false) = true) ∧ ((decide ((10 : Int) ≤ a0_45) && decide (a0_45 ≤ (13 : Int)) && !false) = true → (decide ((10 : Int) ≤ a0_45) && decide (a0_45 ≤ (13 : Int)) && !false) = true) ∧ ((decide ((10 : Int) ≤ a0_45) && decide (a0_45 ≤ (13 : Int)) && !false) = true → (decide ((10 : Int) ≤ a0_45) && decide (a0_45 ≤ (13 : Int)) && !false) = true) ∧ ((decide ((10 : Int) ≤ a0_45) && decide (a0_45 ≤ (13 : Int)) && !false) = true → (decide ((10 : Int) ≤ a0_45) && decide (a0_45 ≤ (13 : Int)) && !false) = true) ∧ ((decide ((10 : Int) ≤ a0_45) && decide (a0_45 ≤ (13 : Int)) && !false) = true → (decide ((10 : Int) ≤ a0_45) && decide (a0_45 ≤ (13 : Int)) && !false) = true) ∧ ((decide ((10 : Int) ≤ a0_45) && decide (a0_45 ≤ (13 : Int)) && !false) = true → (decide ((10 : Int) ≤ a0_45) && decide (a0_45 ≤ (13 : Int)) && !false) = true) ∧ ((decide ((10 : Int) ≤ a0_45) && decide (a0_45 ≤ (13 : Int)) && !false) = true → decide (points ≤ a0_32) = false) ∧ ((decide ((10 : Int) ≤ a0_45) && decide (a0_45 ≤ (13 : Int))) = true → (decide ((10 : Int) ≤ a0_45) && decide (a0_45 ≤ (13 : Int))) = true → (decide ((10 : Int) ≤ a0_45) && decide (a0_45 ≤ (13 : Int))) = true) ∧ ((decide ((10 : Int) ≤ a0_45) && decide (a0_45 ≤ (13 : Int)) && !false) = true → (decide ((10 : Int) ≤ a0_45) && decide (a0_45 ≤ (13 : Int)) && !false) = true) ∧ ((decide ((10 : Int) ≤ a0_45) && decide (a0_45 ≤ (13 : Int))) = true → (decide ((10 : Int) ≤ a0_45) && decide (a0_45 ≤ (13 : Int))) = true) ∧ Eng.Pure Tryz.prog 57 [a0_15] (vbool (decide ((10 : Int) ≤ a0_47) && decide (a0_47 ≤ (13 : Int)))) ∧ ((decide ((10 : Int) ≤ a0_47) && decide (a0_47 ≤ (13 : Int))) = true → (decide ((10 : Int) ≤ a0_47) && decide (a0_47 ≤ (13 : Int))) = true) ∧ ((decide ((10 : Int) ≤ a0_47) && decide (a0_47 ≤ (13 : Int))) = true → (decide ((10 : Int) ≤ a0_47) && decide (a0_47 ≤ (13 : Int))) = true) ∧ ((decide ((10 : Int) ≤ a0_47) && decide (a0_47 ≤ (13 : Int))) = true → decide (a0_37 < (0 : Int)) = false) ∧ ((decide ((10 : Int) ≤ a0_47) && decide (a0_47 ≤ (13 : Int))) = true → (decide ((10 : Int) ≤ a0_47) && decide (a0_47 ≤ (13 : Int))) = true) ∧ ((decide ((10 : Int) ≤ a0_47) && decide (a0_47 ≤ (13 : Int)) && !false) = true → (decide ((10 : Int) ≤ a0_47) && decide (a0_47 ≤ (13 : Int)) && !false) = true) ∧ ((decide ((10 : Int) ≤ a0_47) && decide (a0_47 ≤ (13 : Int)) && !false) = true → (decide ((10 : Int) ≤ a0_47) && decide (a0_47 ≤ (13 : Int)) && !false) = true) ∧ ((decide ((10 : Int) ≤ a0_47) && decide (a0_47 ≤ (13 : Int)) && !false) = true → (decide ((10 : Int) ≤ a0_47) && decide (a0_47 ≤ (13 : Int)) && !false) = true) ∧ ((decide ((10 : Int) ≤ a0_47) && decide (a0_47 ≤ (13 : Int)) && !false) = true → (decide ((10 : Int) ≤ a0_47) && decide (a0_47 ≤ (13 : Int)) && !false) = true) ∧ ((decide ((10 : Int) ≤ a0_47) && decide (a0_47 ≤ (13 : Int)) && !false) = true → (decide ((10 : Int) ≤ a0_47) && decide (a0_47 ≤ (13 : Int)) && !false) = true) ∧ ((decide ((10 : Int) ≤ a0_47) && decide (a0_47 ≤ (13 : Int)) && !false) = true → (decide ((10 : Int) ≤ a0_47) && decide (a0_47 ≤ (13 : Int)) && !false) = true) ∧ ((decide ((10 : Int) ≤ a0_47) && decide (a0_47 ≤ (13 : Int)) && !false) = true → decide (points ≤ a0_37) = false) ∧ ((decide ((10 : Int) ≤ a0_47) && decide (a0_47 ≤ (13 : Int))) = true → (decide ((10 : Int) ≤ a0_47) && decide (a0_47 ≤ (13 : Int))) = true → (decide ((10 : Int) ≤ a0_47) && decide (a0_47 ≤ (13 : Int))) = true) ∧ ((decide ((10 : Int) ≤ a0_47) && decide (a0_47 ≤ (13 : Int)) && !false) = true → (decide ((10 : Int) ≤ a0_47) && decide (a0_47 ≤ (13 : Int)) && !false) = true) ∧ ((decide ((10 : Int) ≤ a0_47) && decide (a0_47 ≤ (13 : Int))) = true → (decide ((10 : Int) ≤ a0_47) && decide (a0_47 ≤ (13 : Int))) = true) ∧ Eng.Pure Tryz.prog 57 [a0_10] (vbool (decide ((10 : Int) ≤ a0_51) && decide (a0_51 ≤ (13 : Int)))) ∧ ((decide ((10 : Int) ≤ a0_51) && decide (a0_51 ≤ (13 : Int))) = true → (decide ((10 : Int) ≤ a0_51) && decide (a0_51 ≤ (13 : Int))) = true) ∧ ((decide ((10 : Int) ≤ a0_51) && decide (a0_51 ≤ (13 : Int))) = true → (decide ((10 : Int) ≤ a0_51) && decide (a0_51 ≤ (13 : Int))) = true) ∧ ((decide ((10 : Int) ≤ a0_51) && decide (a0_51 ≤ (13 : Int))) = true → decide (a0_33 < (0 : Int)) = false) ∧ ((decide ((10 : Int) ≤ a0_51) && decide (a0_51 ≤ (13 : Int))) = true → (decide ((10 : Int) ≤ a0_51) && decide (a0_51 ≤ (13 : Int))) = true) ∧ ((decide ((10 : Int) ≤ a0_51) && decide (a0_51 ≤ (13 : Int)) && !false) = true → (decide ((10 : Int) ≤ a0_51) && decide (a0_51 ≤ (13 : Int)) && !false) = true) ∧ ((decide ((10 : Int) ≤ a0_51) && decide (a0_51 ≤ (13 : Int)) && !false) = true → (decide ((10 : Int) ≤ a0_51) && decide (a0_51 ≤ (13 : Int)) && !false) = true) ∧ ((decide ((10 : Int) ≤ a0_51) && decide (a0_51 ≤ (13 : Int)) && !false) = true → (decide ((10 : Int) ≤ a0_51) && decide (a0_51 ≤ (13 : Int)) && !false) = true) ∧ ((decide ((10 : Int) ≤ a0_51) && decide (a0_51 ≤ (13 : Int)) && !false) = true → (decide ((10 : Int) ≤ a0_51) && decide (a0_51 ≤ (13 : Int)) && !false) = true) ∧ ((decide ((10 : Int) ≤ a0_51) && decide (a0_51 ≤ (13 : Int)) && !false) = true → (decide ((10 : Int) ≤ a0_51) && decide (a0_51 ≤ (13 : Int)) && !false) = true) ∧ ((decide ((10 : Int) ≤ a0_51) && decide (a0_51 ≤ (13 : Int)) && !false) = true → (decide ((10 : Int) ≤ a0_51) && decide (a0_51 ≤ (13 : Int)) && !false) = true) ∧ ((decide ((10 : Int) ≤ a0_51) && decide (a0_51 ≤ (13 : Int)) && !false) = true → decide (points ≤ a0_33) = false) ∧ ((decide ((10 : Int) ≤ a0_51) && decide (a0_51 ≤ (13 : Int))) = true → (decide ((10 : Int) ≤ a0_51) && decide (a0_51 ≤ (13 : Int))) = true → (decide ((10 : Int) ≤ a0_51) && decide (a0_51 ≤ (13 : Int))) = true) ∧ ((decide ((10 : Int) ≤ a0_51) && decide (a0_51 ≤ (13 : Int)) && !false) = true → (decide ((10 : Int) ≤ a0_51) && decide (a0_51 ≤ (13 : Int)) && !false) = true) ∧ ((decide ((10 : Int) ≤ a0_51) && decide (a0_51 ≤ (13 : Int))) = true → (decide ((10 : Int) ≤ a0_51) && decide (a0_51 ≤ (13 : Int))) = true) ∧ Eng.Pure Tryz.prog 57 [a0_14] (vbool (decide ((10 : Int) ≤ a0_44) && decide (a0_44 ≤ (13 : Int)))) ∧ ((decide ((10 : Int) ≤ a0_44) && decide (a0_44 ≤ (13 : Int))) = true → (decide ((10 : Int) ≤ a0_44) && decide (a0_44 ≤ (13 : Int))) = true) ∧ ((decide ((10 : Int) ≤ a0_44) && decide (a0_44 ≤ (13 : Int))) = true → (decide ((10 : Int) ≤ a0_44) && decide (a0_44 ≤ (13 : Int))) = true) ∧ ((decide ((10 : Int) ≤ a0_44) && decide (a0_44 ≤ (13 : Int))) = true → decide (a0_34 < (0 : Int)) = false) ∧ ((decide ((10 : Int) ≤ a0_44) && decide (a0_44 ≤ (13 : Int))) = true → (decide ((10 : Int) ≤ a0_44) && decide (a0_44 ≤ (13 : Int))) = true) ∧ ((decide ((10 : Int) ≤ a0_44) && decide (a0_44 ≤ (13 : Int)) && !false) = true → (decide ((10 : Int) ≤ a0_44) && decide (a0_44 ≤ (13 : Int)) && !false) = true) ∧ ((decide ((10 : Int) ≤ a0_44) && decide (a0_44 ≤ (13 : Int)) && !false) = true → (decide ((10 : Int) ≤ a0_44) && decide (a0_44 ≤ (13 : Int)) && !false) = true) ∧ ((decide ((10 : Int) ≤ a0_44) && decide (a0_44 ≤ (13 : Int)) && !false) = true → (decide ((10 : Int) ≤ a0_44) && decide (a0_44 ≤ (13 : Int)) && !false) = true) ∧ ((decide ((10 : Int) ≤ a0_44) && decide (a0_44 ≤ (13 : Int)) && !false) = true → (decide ((10 : Int) ≤ a0_44) && decide (a0_44 ≤ (13 : Int)) && !false) = true) ∧ ((decide ((10 : Int) ≤ a0_44) && decide (a0_44 ≤ (13 : Int)) && !false) = true → (decide ((10 : Int) ≤ a0_44) && decide (a0_44 ≤ (13 : Int)) && !false) = true) ∧ ((decide ((10 : Int) ≤ a0_44) && decide (a0_44 ≤ (13 : Int)) && !false) = true → (decide ((10 : Int) ≤ a0_44) && decide (a0_44 ≤ (13 : Int)) && !false) = true) ∧ ((decide ((10 : Int) ≤ a0_44) && decide (a0_44 ≤ (13 : Int)) && !false) = true → decide (points ≤ a0_34) = false) ∧ ((decide ((10 : Int) ≤ a0_44) && decide (a0_44 ≤ (13 : Int))) = true → (decide ((10 : Int) ≤ a0_44) && decide (a0_44 ≤ (13 : Int))) = true → (decide ((10 : Int) ≤ a0_44) && decide (a0_44 ≤ (13 : Int))) = true) ∧ ((decide ((10 : Int) ≤ a0_44) && decide (a0_44 ≤ (13 : Int)) && !false) = true → (decide ((10 : Int) ≤ a0_44) && decide (a0_44 ≤ (13 : Int)) && !false) = true) ∧ ((decide ((10 : Int) ≤ a0_44) && decide (a0_44 ≤ (13 : Int))) = true → (decide ((10 : Int) ≤ a0_44) && decide (a0_44 ≤ (13 : Int))) = true) ∧ Eng.Pure Tryz.prog 57 [a0_9] (vbool (decide ((10 : Int) ≤ a0_40) && decide (a0_40 ≤ (13 : Int)))) ∧ ((decide ((10 : Int) ≤ a0_40) && decide (a0_40 ≤ (13 : Int))) = true → (decide ((10 : Int) ≤ a0_40) && decide (a0_40 ≤ (13 : Int))) = true) ∧ ((decide ((10 : Int) ≤ a0_40) && decide (a0_40 ≤ (13 : Int))) = true → (decide ((10 : Int) ≤ a0_40) && decide (a0_40 ≤ (13 : Int))) = true) ∧ ((decide ((10 : Int) ≤ a0_40) && decide (a0_40 ≤ (13 : Int))) = true → decide (a0_35 < (0 : Int)) = false) ∧ ((decide ((10 : Int) ≤ a0_40) && decide (a0_40 ≤ (13 : Int))) = true → (decide ((10 : Int) ≤ a0_40) && decide (a0_40 ≤ (13 : Int))) = true) ∧ ((decide ((10 : Int) ≤ a0_40) && decide (a0_40 ≤ (13 : Int)) && !false) = true → (decide ((10 : Int) ≤ a0_40) && decide (a0_40 ≤ (13 : Int)) && !false) = true) ∧ ((decide ((10 : Int) ≤ a0_40) && decide (a0_40 ≤ (13 : Int)) && !false) = true → (decide ((10 : Int) ≤ a0_40) && decide (a0_40 ≤ (13 : Int)) && !false) = true) ∧ ((decide ((10 : Int) ≤ a0_40) && decide (a0_40 ≤ (13 : Int)) && !false) = true → (decide ((10 : Int) ≤ a0_40) && decide (a0_40 ≤ (13 : Int)) && !false) = true) ∧ ((decide ((10 : Int) ≤ a0_40) && decide (a0_40 ≤ (13 : Int)) && !false) = true → (decide ((10 : Int) ≤ a0_40) && decide (a0_40 ≤ (13 : Int)) && !false) = true) ∧ ((decide ((10 : Int) ≤ a0_40) && decide (a0_40 ≤ (13 : Int)) && !false) = true → (decide ((10 : Int) ≤ a0_40) && decide (a0_40 ≤ (13 : Int)) && !false) = true) ∧ ((decide ((10 : Int) ≤ a0_40) && decide (a0_40 ≤ (13 : Int)) && !false) = true → (decide ((10 : Int) ≤ a0_40) && decide (a0_40 ≤ (13 : Int)) && !false) = true) ∧ ((decide ((10 : Int) ≤ a0_40) && decide (a0_40 ≤ (13 : Int)) && !false) = true → decide (points ≤ a0_35) = false) ∧ ((decide ((10 : Int) ≤ a0_40) && decide (a0_40 ≤ (13 : Int))) = true → (decide ((10 : Int) ≤ a0_40) && decide (a0_40 ≤ (13 : Int))) = true → (decide ((10 : Int) ≤ a0_40) && decide (a0_40 ≤ (13 : Int))) = true) ∧ ((decide ((10 : Int) ≤ a0_40) && decide (a0_40 ≤ (13 : Int)) && !false) = true → (decide ((10 : Int) ≤ a0_40) && decide (a0_40 ≤ (13 : Int)) && !false) = true) ∧ ((decide ((10 : Int) ≤ a0_40) && decide (a0_40 ≤ (13 : Int))) = true → (decide ((10 : Int) ≤ a0_40) && decide (a0_40 ≤ (13 : Int))) = true) ∧ (∀ (j : Nat), j < 1 → nthD a0_28 j = D.p (nthD a0_28 j).unP) ∧ Eng.Pure Tryz.prog 35 a0_22 a0_23 ∧ K (D.tup [a0_8, D.p (PV.v (Value.int IntKind.i64 (0 : Int)))]) [O.box a0_8, O.box (mkAgg [D.p (PV.v (Value.int IntKind.i64 points)), D.p (PV.v (Value.int IntKind.i64 (Int.ofNat 0))), D.p (PV.v (Value.int IntKind.i64 (Int.ofNat 2))), a0_23]), a0_7, a0_7, a0_17, a0_17, a0_6, a0_6, a0_16, a0_16, a0_2, a0_2, a0_20, a0_20, a0_3, a0_3, a0_21, a0_21, a0_1, a0_1, a0_19, a0_19, a0_4, a0_4, a0_0, a0_0, a0_5, a0_5, a0_18, a0_18, O.arr 3 1 1 (nthD a0_28), O.dead]) (by kernel_rfl) ?_
 have e0 : decide (n < 0) = false := by simp; omega
 have e1 : decide (points ≤ n) = false := by simp; omega
 have hK : ∀ H, K (.tup [.p (eFacts 7 2 [n]), vint .i64 0]) H := fun H => ⟨rfl, rfl, trivial⟩
 repeat' first | exact point_ok _ _ _ | exact hK _ | exact compact_ok _ | exact fun h => h | exact fun _ => e0 | exact fun _ => e1 | exact fun _ h => h | exact fun h => Bool.noConfusion (show false = true from h) | exact fun j hj => (match j, hj with | 0, _ => rfl) | refine And.intro ?_ ?_
set_option maxRecDepth 100000 in
theorem verify3_ok (n points : Int) (h0 : 0 ≤ n) (h1 : n < points) : Pure Tryz.prog 10 [eTs (hp3 n), eI points] (.tup [.p (eFacts 9 2 [n]), vint .i64 0]) := by
 let K : KV := endP (.tup [.p (eFacts 9 2 [n]), vint .i64 0])
 refine pure_by 20 hVer (p :=
  let a0_47 : PV := PV.v (Value.int IntKind.i64 (1 : Int)); let a0_46 : PV := PV.v (Value.int IntKind.i64 (0 : Int)); let a0_45 : PV := PV.v (Value.int IntKind.i64 (Int.ofNat 2)); let a0_44 : Tn := (hp3 n).getD 4 tn0; let a0_43 : Tn := (hp3 n).getD 3 tn0; let a0_42 : Tn := (hp3 n).getD 2 tn0; let a0_41 : Tn := (hp3 n).getD 0 tn0; let a0_40 : Tn := (hp3 n).getD 1 tn0; let a0_39 : List PV := [a0_46]; let a0_38 : List PV := [a0_47]; let a0_37 : Int × Int := a0_42.snd; let a0_36 : Int := a0_40.fst; let a0_35 : Int := a0_41.fst; let a0_34 : Int × Int := a0_44.snd; let a0_33 : Int := a0_44.fst; let a0_32 : Int := a0_42.fst; let a0_31 : Int × Int := a0_41.snd; let a0_30 : Int × Int := a0_43.snd; let a0_29 : Int × Int := a0_40.snd; let a0_28 : Int := a0_43.fst; let a0_27 : Int := a0_34.fst; let a0_26 : Int := a0_30.fst; let a0_25 : Int := a0_37.fst; let a0_24 : Int := a0_29.fst; let a0_23 : Int := a0_31.fst; let a0_22 : PV := PV.v (Value.int IntKind.i64 a0_27); let a0_21 : List UInt8 := [(101 : UInt8), (116 : UInt8), (121 : UInt8)]; let a0_20 : List D := [D.p a0_22]; let a0_19 : List PV := PV.v (Value.bool true) :: PV.v (Value.bool false) :: a0_46 :: a0_38; let a0_18 : PV := PV.lst 1 1 fun (j : Nat) => (nthD a0_20 j).unP; let a0_17 : D := D.p a0_18; let a0_16 : List PV := [a0_18]; let a0_15 : O := O.box (D.p (PV.agg (PV.s [(97 : UInt8), (100 : UInt8), (100 : UInt8)] :: PV.v (Value.bool false) :: PV.v (Value.bool false) :: PV.v (Value.int IntKind.i64 (2 : Int)) :: a0_38))); let a0_14 : O := O.box (D.p (PV.agg (PV.s ((103 : UInt8) :: a0_21) :: a0_19))); let a0_13 : O := O.box (D.p (PV.agg (PV.s [(108 : UInt8), (111 : UInt8), (111 : UInt8), (112 : UInt8)] :: PV.v (Value.bool true) :: PV.v (Value.bool true) :: a0_46 :: a0_39))); let a0_12 : O := O.box (D.p (PV.agg (PV.s ((115 : UInt8) :: a0_21) :: PV.v (Value.bool true) :: PV.v (Value.bool false) :: a0_47 :: a0_39))); let a0_11 : O := O.box (D.p (PV.agg (PV.s [(112 : UInt8), (117 : UInt8), (115 : UInt8), (104 : UInt8)] :: a0_19))); let a0_10 : PV := PV.agg [PV.v (Value.int IntKind.i64 a0_36), PV.v (Value.int IntKind.i64 a0_24), PV.v (Value.int IntKind.i64 a0_29.snd)]; let a0_9 : PV := PV.agg [PV.v (Value.int IntKind.i64 a0_28), PV.v (Value.int IntKind.i64 a0_26), PV.v (Value.int IntKind.i64 a0_30.snd)]; let a0_8 : D := D.p (PV.agg (PV.v (Value.int IntKind.i64 (Int.ofNat 9)) :: a0_45 :: a0_16)); let a0_7 : PV := PV.agg [PV.v (Value.int IntKind.i64 a0_32), PV.v (Value.int IntKind.i64 a0_25), PV.v (Value.int IntKind.i64 a0_37.snd)]; let a0_6 : PV := PV.agg [PV.v (Value.int IntKind.i64 a0_35), PV.v (Value.int IntKind.i64 a0_23), PV.v (Value.int IntKind.i64 a0_31.snd)]; let a0_5 : PV := PV.agg [PV.v (Value.int IntKind.i64 a0_33), a0_22, PV.v (Value.int IntKind.i64 a0_34.snd)]; let a0_4 : O := O.box (D.p a0_7); let a0_3 : O := O.box (D.p a0_5); let a0_2 : O := O.box (D.p a0_10); let a0_1 : O := O.box (D.p a0_6); let a0_0 : O := O.box (D.p a0_9); Eng.Pure Tryz.prog 57 [a0_6] (vbool (decide ((10 : Int) ≤ a0_35) && decide (a0_35 ≤ (13 : Int)))) ∧ ((decide ((10 : Int) ≤ a0_35) && decide (a0_35 ≤ (13 : Int))) = true → (decide ((10 : Int) ≤ a0_35) && decide (a0_35 ≤ (13 : Int))) = true) ∧ ((decide ((10 : Int) ≤ a0_35) && decide (a0_35 ≤ (13 : Int))) = true → (decide ((10 : Int) ≤ a0_35) && decide (a0_35 ≤ (13 : Int))) = true) ∧ ((decide ((10 : Int) ≤ a0_35) && decide (a0_35 ≤ (13 : Int))) = true → decide (a0_23 < (0 : Int)) = false) ∧ ((decide ((10 : Int) ≤ a0_35) && decide (a0_35 ≤ (13 : Int))) = true → (decide ((10 : Int) ≤ a0_35) && decide (a0_35 ≤ (13 : Int))) = true) ∧ ((decide ((10 : Int) ≤ a0_35) && decide (a0_35 ≤ (13 : Int)) && !false) = true → (decide ((10 : Int) ≤ a0_35) && decide (a0_35 ≤ (13 : Int)) && !false) = true) ∧ ((decide ((10 : Int) ≤ a0_35) && decide (a0_35 ≤ (13 : Int)) && !false) = true → (decide ((10 : Int) ≤ a0_35) && decide (a0_35 ≤ (13 : Int)) && !false) = true) ∧ ((decide ((10 : Int) ≤ a0_35) && decide (a0_35 ≤ (13 : Int)) && !false) = true → (decide ((10 : Int) ≤ a0_35) && decide (a0_35 ≤ (13 : Int)) && !false) = true) ∧ ((decide ((10 : Int) ≤ a0_35) && decide (a0_35 ≤ (13 : Int)) && !false) = true → (decide ((10 : Int) ≤ a0_35) && decide (a0_35 ≤ (13 : Int)) && !false) = true) ∧ ((decide ((10 : Int) ≤ a0_35) && decide (a0_35 ≤ (13 : Int)) && !false) = true → (decide ((10 : Int) ≤ a0_35) && decide (a0_35 ≤ (13 : Int)) && !false) = true) ∧ ((decide ((10 : Int) ≤ a0_35) && decide (a0_35 ≤ (13 : Int)) && !false) = true → (decide ((10 : Int) ≤ a0_35) && decide (a0_35 ≤ (13 : Int)) && !false) = true) ∧ ((decide ((10 : Int) ≤ a0_35) && decide (a0_35 ≤ (13 : Int)) && !false) = true → decide (points ≤ a0_23) = false) ∧ ((decide ((10 : Int) ≤ a0_35) && decide (a0_35 ≤ (13 : Int))) = true → (decide ((10 : Int) ≤ a0_35) && decide (a0_35 ≤ (13 : Int))) = true → (decide ((10 : Int) ≤ a0_35) && decide (a0_35 ≤ (13 : Int))) = true) ∧ ((decide ((10 : Int) ≤ a0_35) && decide (a0_35 ≤ (13 : Int)) && !false) = true → (decide ((10 : Int) ≤ a0_35) && decide (a0_35 ≤ (13 : Int)) && !false) = true) ∧ ((decide ((10 : Int) ≤ a0_35) && decide (a0_35 ≤ (13 : Int))) = true → (decide ((10 : Int) ≤ a0_35) && decide (a0_35 ≤ (13 : Int))) = true) ∧ Eng.Pure Tryz.prog 57 [a0_10] (vbool (decide ((10 : Int) ≤ a0_36) && decide (a0_36 ≤ (13 : Int)))) ∧ ((decide ((10 : Int) ≤ a0_36) && decide (a0_36 ≤ (13 : Int))) = true → (decide ((10 : Int) ≤ a0_36) && decide (a0_36 ≤ (13 : Int))) = true) ∧ ((decide ((10 : Int) ≤ a0_36) && decide (a0_36 ≤ (13 : Int))) = true → (decide ((10 : Int) ≤ a0_36) && decide (a0_36 ≤ (13 : Int))) = true) ∧ ((decide ((10 : Int) ≤ a0_36) && decide (a0_36 ≤ (13 : Int))) = true → decide (a0_24 < (0 : Int)) = false) ∧ ((decide ((10 : Int) ≤ a0_36) && decide (a0_36 ≤ (13 : Int))) = true → (decide ((10 : Int) ≤ a0_36) && decide (a0_36 ≤ (13 : Int))) = true) ∧ ((decide ((10 : Int) ≤ a0_36) && decide (a0_36 ≤ (13 : Int)) && !false) = true → (decide ((10 : Int) ≤ a0_36) && decide (a0_36 ≤ (13 : Int)) && !false) = true) ∧ ((decide ((10 : Int) ≤ a0_36) && decide (a0_36 ≤ (13 : Int)) && !false) = true → (decide ((10 : Int) ≤ a0_36) && decide (a0_36 ≤ (13 : Int)) && !false) = true) ∧ ((decide ((10 : Int) ≤ a0_36) && decide (a0_36 ≤ (13 : Int)) && !false) = true → (decide ((10 : Int) ≤ a0_36) && decide (a0_36 ≤ (13 : Int)) && !false) = true) ∧ ((decide ((10 : Int) ≤ a0_36) && decide (a0_36 ≤ (13 : Int)) && !false) = true → (decide ((10 : Int) ≤ a0_36) && decide (a0_36 ≤ (13 : Int)) && !false) = true) ∧ ((decide ((10 : Int) ≤ a0_36) && decide (a0_36 ≤ (13 : Int)) && !false) = true → (decide ((10 : Int) ≤ a0_36) && decide (a0_36 ≤ (13 : Int)) && !false) = true) ∧ ((decide ((10 : Int) ≤ a0_36) && decide (a0_36 ≤ (13 : Int)) && !false) = true → (decide ((10 : Int) ≤ a0_36) && decide (a0_36 ≤ (13 : Int)) && !false) = true) ∧ ((decide ((10 : Int) ≤ a0_36) && decide (a0_36 ≤ (13 : Int)) && !false) = true → decide (points ≤ a0_24) = false) ∧ ((decide ((10 : Int) ≤ a0_36) && decide (a0_36 ≤ (13 : Int))) = true → (decide ((10 : Int) ≤ a0_36) && decide (a0_36 ≤ (13 : Int))) = true → (decide ((10 : Int) ≤ a0_36) && decide (a0_36 ≤ (13 : Int))) = true) ∧ ((decide ((10 : Int) ≤ a0_36) && decide (a0_36 ≤ (13 : Int)) && !false) = true → (decide ((10 : Int) ≤ a0_36) && decide (a0_36 ≤ (13 : Int)) && !false) = true) ∧ ((decide ((10 : Int) ≤ a0_36) && decide (a0_36 ≤ (13 : Int))) = true → (decide ((10 : Int) ≤ a0_36) && decide (a0_36 ≤ (13 : Int))) = true) ∧ Eng.Pure Tryz.prog 57 [a0_7] (vbool (decide ((10 : Int) ≤ a0_32) && decide (a0_32 ≤ (13 : Int)))) ∧ ((decide ((10 : Int) ≤ a0_32) && decide (a0_32 ≤ (13 : Int))) = true → (decide ((10 : Int) ≤ a0_32) && decide (a0_32 ≤ (13 : Int))) = true) ∧ ((decide ((10 : Int) ≤ a0_32) && decide (a0_32 ≤ (13 : Int))) = true → (decide ((10 : Int) ≤ a0_32) && decide (a0_32 ≤ (13 : Int))) = true) ∧ ((decide ((10 : Int) ≤ a0_32) && decide (a0_32 ≤ (13 : Int))) = true → decide (a0_25 < (0 : Int)) = false) ∧ ((decide ((10 : Int) ≤ a0_32) && decide (a0_32 ≤ (13 : Int))) = true → (decide ((10 : Int) ≤ a0_32) && decide (a0_32 ≤ (13 : Int))) = true) ∧ ((decide ((10 : Int) ≤ a0_32) && decide (a0_32 ≤ (13 : Int)) && !false) = true → (decide ((10 : Int) ≤ a0_32) && decide (a0_32 ≤ (13 : Int)) && !false) = true) ∧ ((decide ((10 : Int) ≤ a0_32) && decide (a0_32 ≤ (13 : Int)) && !false) = true → (decide ((10 : Int) ≤ a0_32) && decide (a0_32 ≤ (13 : Int)) && !false) = true) ∧ ((decide ((10 : Int) ≤ a0_32) && decide (a0_32 ≤ (13 : Int)) && !false) = true → (decide ((10 : Int) ≤ a0_32) && decide (a0_32 ≤ (13 : Int)) && !false) = true) ∧ ((decide ((10 : Int) ≤ a0_32) && decide (a0_32 ≤ (13 : Int)) && !false) = true → (decide ((10 : Int) ≤ a0_32) && decide (a0_32 ≤ (13 : Int)) && !false) = true) ∧ ((decide ((10 : Int) ≤ a0_32) && decide (a0_32 ≤ (13 : Int)) && !false) = true → (decide ((10 : Int) ≤ a0_32) && decide (a0_32 ≤ (13 : Int)) && !false) = true) ∧ ((decide ((10 : Int) ≤ a0_32) && decide (a0_32 ≤ (13 : Int)) && !false) = true → (decide ((10 : Int) ≤ a0_32) && decide (a0_32 ≤ (13 : Int)) && !false) = true) ∧ ((decide ((10 : Int) ≤ a0_32) && decide (a0_32 ≤ (13 : Int)) && !false) = true → decide (points ≤ a0_25) = false) ∧ ((decide ((10 : Int) ≤ a0_32) && decide (a0_32 ≤ (13 : Int))) = true → (decide ((10 : Int) ≤ a0_32) && decide (a0_32 ≤ (13 : Int))) = true → (decide ((10 : Int) ≤ a0_32) && decide (a0_32 ≤ (13 : Int))) = true) ∧ ((decide ((10 : Int) ≤ a0_32) && decide (a0_32 ≤ (13 : Int)) && !false) = true → (decide ((10 : Int) ≤ a0_32) && decide (a0_32 ≤ (13 : Int)) && !false) = true) ∧ ((decide ((10 : Int) ≤ a0_32) && decide (a0_32 ≤ (13 : Int))) = true → (decide ((10 : Int) ≤ a0_32) && decide (a0_32 ≤ (13 : Int))) = true) ∧ Eng.Pure Tryz.prog 57 [a0_9] (vbool (decide ((10 : Int) ≤ a0_28) && decide (a0_28 ≤ (13 : Int)))) ∧ ((decide ((10 : Int) ≤ a0_28) && decide (a0_28 ≤ (13 : Int))) = true → (decide ((10 : Int) ≤ a0_28) && decide (a0_28 ≤ (13 : Int))) = true) ∧ ((decide ((10 : Int) ≤ a0_28) && decide (a0_28 ≤ (13 : Int))) = true → (decide ((10 : Int) ≤ a0_28) && decide (a0_28 ≤ (13 : Int))) = true) ∧ ((decide ((10 : Int) ≤ a0_28) && decide (a0_28 ≤ (13 : Int))) = true → decide (a0_26 < (0 : Int)) = false) ∧ ((decide ((10 : Int) ≤ a0_28) && decide (a0_28 ≤ (13 : Int))) = true → (decide ((10 : Int) ≤ a0_28) && decide (a0_28 ≤ (13 : Int))) = true) ∧ ((decide ((10 : Int) ≤ a0_28) && decide (a0_28 ≤ (13 : Int)) && !false) = true → (decide ((10 : Int) ≤ a0_28) && decide (a0_28 ≤ (13 : Int)) && !false) = true) ∧ ((decide ((10 : Int) ≤ a0_28) && decide (a0_28 ≤ (13 : Int)) && !false) = true → (decide ((10 : Int) ≤ a0_28) && decide (a0_28 ≤ (13 : Int)) && !false) = true) ∧ ((decide ((10 : Int) ≤ a0_28) && decide (a0_28 ≤ (13 : Int)) && !false) = true → (decide ((10 : Int) ≤ a0_28) && decide (a0_28 ≤ (13 : Int)) && !false) = true) ∧ ((decide ((10 : Int) ≤ a0_28) && decide (a0_28 ≤ (13 : Int)) && !false) = true → (decide ((10 : Int) ≤ a0_28) && decide (a0_28 ≤ (13 : Int)) && !false) = true) ∧ ((decide ((10 : Int) ≤ a0_28) && decide (a0_28 ≤ (13 : Int)) && !false) = true → (decide ((10 : Int) ≤ a0_28) && decide (a0_28 ≤ (13 : Int)) && !false) = true) ∧ ((decide ((10 : Int) ≤ a0_28) && decide (a0_28 ≤ (13 : Int)) && !false) = true → (decide ((10 : Int) ≤ a0_28) && decide (a0_28 ≤ (13 : Int)) && !false) = true) ∧ ((decide ((10 : Int) ≤ a0_28) && decide (a0_28 ≤ (13 : Int)) && !false) = true → decide (points ≤ a0_26) = false) ∧ ((decide ((10 : Int) ≤ a0_28) && decide (a0_28 ≤ (13 : Int))) = true → (decide ((10 : Int) ≤ a0_28) && decide (a0_28 ≤ (13 : Int))) = true → (decide ((10 : Int) ≤ a0_28) && decide (a0_28 ≤ (13 : Int))) = true) ∧ ((decide ((10 : Int) ≤ a0_28) && decide (a0_28 ≤ (13 : Int)) && !false) = true → (decide ((10 : Int) ≤ a0_28) && decide (a0_28 ≤ (13 : Int)) && !false) = true) ∧ ((decide ((10 : Int) ≤ a0_28) && decide (a0_28 ≤ (13 : Int))) = true → (decide ((10 : Int) ≤ a0_28) && decide (a0_28 ≤ (13 : Int))) = true) ∧ Eng.Pure Tryz.prog 57 [a0_5] (vbool (decide ((10 : Int) ≤ a0_33) && decide (a0_33 ≤ (13 : Int)))) ∧ ((decide ((10 : Int) ≤ a0_33) && decide (a0_33 ≤ (13 : Int))) = true → (decide ((10 : Int) ≤ a0_33) && decide (a0_33 ≤ (13 : Int))) = true) ∧ ((decide ((10 : Int) ≤ a0_33) && decide (a0_33 ≤ (13 : Int))) = true → (decide ((10 : Int) ≤ a0_33) && decide (a0_33 ≤ (13 : Int))) = true) ∧ ((decide ((10 : Int) ≤ a0_33) && decide (a0_33 ≤ (13 : Int))) = true → decide (a0_27 < (0 : Int)) = false) ∧ ((decide ((10 : Int) ≤ a0_33) && decide (a0_33 ≤ (13 : Int))) = true → (decide ((10 : Int) ≤ a0_33) && decide (a0_33 ≤ (13 : Int))) = true) ∧ ((decide ((10 : Int) ≤ a0_33) && decide (a0_33 ≤ (13 : Int)) && !false) = true → (decide ((10 : Int) ≤ a0_33) && decide (a0_33 ≤ (13 : Int)) && !false) = true) ∧ ((decide ((10 : Int) ≤ a0_33) && decide (a0_33 ≤ (13 : Int)) && !false) = true → (decide ((10 : Int) ≤ a0_33) && decide (a0_33 ≤ (13 : Int)) && !false) = true) ∧ ((decide ((10 : Int) ≤ a0_33) && decide (a0_33 ≤ (13 : Int)) && !false) = true → (decide ((10 : Int) ≤ a0_33) && decide (a0_33 ≤ (13 : Int)) && !false) = true) ∧ ((decide ((10 : Int) ≤ a0_33) && decide (a0_33 ≤ (13 : Int)) && !false) = true → (decide ((10 : Int) ≤ a0_33) && decide (a0_33 ≤ (13 : Int)) && !false) = true) ∧ ((decide ((10 : Int) ≤ a0_33) && decide (a0_33 ≤ (13 : Int)) && !false) = true → (decide ((10 : Int) ≤ a0_33) && decide (a0_33 ≤ (13 : Int)) && !false) = true) ∧ ((decide ((10 : Int) ≤ a0_33) && decide (a0_33 ≤ (13 : Int)) && !false) = true → (decide ((10 : Int) ≤ a0_33) && decide (a0_33 ≤ (13 : Int)) && !false) = true) ∧ ((decide ((10 : Int) ≤ a0_33) && decide (a0_33 ≤ (13 : Int)) && !false) = true → decide (points ≤ a0_27) = false) ∧ ((decide ((10 : Int) ≤ a0_33) && decide (a0_33 ≤ (13 : Int))) = true → (decide ((10 : Int) ≤ a0_33) && decide (a0_33 ≤ (13 : Int))) = true → (decide ((10 : Int) ≤ a0_33) && decide (a0_33 ≤ (13 : Int))) = true) ∧ ((decide ((10 : Int) ≤ a0_33) && decide (a0_33 ≤ (13 : Int)) && !false) = true → (decide ((10 : Int) ≤ a0_33) && decide (a0_33 ≤ (13 : Int)) && !false) = true) ∧ ((decide ((10 : Int) ≤ a0_33) && decide (a0_33 ≤ (13 : Int))) = true → (decide ((10 : Int) ≤ a0_33) && decide (a0_33 ≤ (13 : Int))) = true) ∧ (∀ (j : Nat), j < 1 → nthD a0_20 j = D.p (nthD a0_20 j).unP) ∧ Eng.Pure Tryz.prog 35 a0_16 a0_17 ∧ K (D.tup [a0_8, D.p a0_46]) [O.box a0_8, O.box (mkAgg [D.p (PV.v (Value.int IntKind.i64 points)), D.p (PV.v (Value.int IntKind.i64 (Int.ofNat 0))), D.p a0_45, a0_17]), a0_1, a0_1, a0_13, a0_13, a0_2, a0_2, a0_14, a0_14, a0_4, a0_4, a0_11, a0_11, a0_0, a0_0, a0_15, a0_15, a0_3, a0_3, a0_12, a0_12, O.arr 3 1 1 (nthD a0_20), O.dead]) (by kernel_rfl) ?_
 have e0 : decide (n < 0) = false := by simp; omega
 have e1 : decide (points ≤ n) = false := by simp; omega
 have hK : ∀ H, K (.tup [.p (eFacts 9 2 [n]), vint .i64 0]) H := fun H => ⟨rfl, rfl, trivial⟩
 repeat' first | exact point_ok _ _ _ | exact hK _ | exact compact_ok _ | exact fun h => h | exact fun _ => e0 | exact fun _ => e1 | exact fun _ h => h | exact fun h => Bool.noConfusion (show false = true from h) | exact fun j hj => (match j, hj with | 0, _ => rfl) | refine And.intro ?_ ?_
set_option maxRecDepth 100000 in
theorem verify0_ok (points : Int) : Pure Tryz.prog 10 [eTs [], eI points] (.tup [.p (.agg [eI 0, eI 0, .v (.slice none 0 0)]), vint .i64 0]) := by
 let K : KV := endP (.tup [.p (.agg [eI 0, eI 0, .v (.slice none 0 0)]), vint .i64 0])
 refine pure_by 20 hVer (p :=
  let a0_4 : PV := PV.v (Value.int IntKind.i64 (0 : Int)); let a0_3 : PV := PV.v (Value.slice none 0 0); let a0_2 : List PV := [a0_3]; let a0_1 : List PV := a0_4 :: a0_2; let a0_0 : D := D.p (PV.agg (PV.v (Value.int IntKind.i64 (Int.ofNat 0)) :: a0_1)); Eng.Pure Tryz.prog 35 a0_2 (D.p a0_3) ∧ K (D.tup [a0_0, D.p a0_4]) [O.box a0_0, O.box (D.p (PV.agg (PV.v (Value.int IntKind.i64 points) :: a0_4 :: a0_1)))]) (by kernel_rfl) ?_
 have hK : ∀ H, K (.tup [.p (.agg [eI 0, eI 0, .v (.slice none 0 0)]), vint .i64 0]) H := fun H => ⟨rfl, rfl, trivial⟩
 repeat' first | exact hK _ | exact compact_nil | refine And.intro ?_ ?_
end Go.Proofs.YtekhlnihpfkkkaaGreatDoor
namespace Go.Proofs.YtekhlnihpfkkkaaGreatDoor
open Go.Shelf Go.RowKit Go.Lib
def rhoF : Go.Shelf.Ren := ⟨fun n => match n with | 15 => 172 | 20 => 186 | 17 => 187 | n => n, fun n => match n with | 23 => 244 | n => n, fun n => n⟩
theorem layI : LaysGw.n15 Tryz.prog rhoF where
 mixed := by kernel_rfl
 f15 := by kernel_rfl
 f20 := by kernel_rfl
 t0 := by kernel_rfl
 a0 := Tryz.isAgg0
 z0 := Tryz.sizeOf0
 v0 := Tryz.zeroValue0
 i0 := by kernel_rfl
 t3 := by kernel_rfl
 a3 := Tryz.isAgg3
 z3 := Tryz.sizeOf3
 v3 := Tryz.zeroValue3
 i3 := by kernel_rfl
 t4 := by kernel_rfl
 a4 := Tryz.isAgg4
 z4 := Tryz.sizeOf4
 v4 := Tryz.zeroValue4
 i4 := by kernel_rfl
 t9 := by kernel_rfl
 a9 := Tryz.isAgg9
 z9 := Tryz.sizeOf9
 v9 := Tryz.zeroValue9
 i9 := by kernel_rfl
 t21 := by kernel_rfl
 a21 := Tryz.isAgg21
 z21 := Tryz.sizeOf21
 v21 := Tryz.zeroValue21
 i21 := by kernel_rfl
 t23 := by kernel_rfl
 a23 := Tryz.isAgg244
 z23 := Tryz.sizeOf244
 v23 := Tryz.zeroValue244
 i23 := by kernel_rfl
theorem layC : LaysGw.n17 Tryz.prog rhoF where
 mixed := by kernel_rfl
 f15 := by kernel_rfl
 f17 := by kernel_rfl
 f20 := by kernel_rfl
 t0 := by kernel_rfl
 a0 := Tryz.isAgg0
 z0 := Tryz.sizeOf0
 v0 := Tryz.zeroValue0
 i0 := by kernel_rfl
 t3 := by kernel_rfl
 a3 := Tryz.isAgg3
 z3 := Tryz.sizeOf3
 v3 := Tryz.zeroValue3
 i3 := by kernel_rfl
 t4 := by kernel_rfl
 a4 := Tryz.isAgg4
 z4 := Tryz.sizeOf4
 v4 := Tryz.zeroValue4
 i4 := by kernel_rfl
 t9 := by kernel_rfl
 a9 := Tryz.isAgg9
 z9 := Tryz.sizeOf9
 v9 := Tryz.zeroValue9
 i9 := by kernel_rfl
 t21 := by kernel_rfl
 a21 := Tryz.isAgg21
 z21 := Tryz.sizeOf21
 v21 := Tryz.zeroValue21
 i21 := by kernel_rfl
 t23 := by kernel_rfl
 a23 := Tryz.isAgg244
 z23 := Tryz.sizeOf244
 v23 := Tryz.zeroValue244
 i23 := by kernel_rfl
theorem tagP (w : World) : PredAt Tryz.prog 188 #[] encR (fun r => decide (r < 97) || decide (122 < r)) w := fun W r _ => by
 unfold FnGives
 by_cases h1 : r < 97 <;> by_cases h2 : 122 < r
 all_goals
  have z1 : (r : Int) < 97 ↔ r < 97 := by omega
  have z2 : (122 : Int) < r ↔ 122 < r := by omega
  go_enter Tryz.func188, Tryz.ntmps188
  go_wp2
  all_goals first | (exfalso; omega) | (go_ret; exact ⟨by simp [h1, h2], 0, rfl⟩)
theorem letP (w : World) (B : Nat) (d : Bool) (hB : B < w.heap.size) (hc : w.cell? ⟨B, 0, none⟩ = some (.bool d)) :
  PredAt Tryz.prog 173 #[.pointer (some ⟨B, 0, none⟩)] encR (fun r => !(decide (97 ≤ r) && decide (r ≤ 122) || d && (decide (48 ≤ r) && decide (r ≤ 57)))) w := fun W r hb => by
 have hc' : W.cell? ⟨B, 0, none⟩ = some (.bool d) := (hb.cell (p := ⟨B, 0, none⟩) hB).trans hc
 unfold FnGives
 cases d <;> by_cases h1 : 97 ≤ r <;> by_cases h2 : r ≤ 122 <;> by_cases h3 : 48 ≤ r <;> by_cases h4 : r ≤ 57
 all_goals
  have z1 : (97 : Int) ≤ r ↔ 97 ≤ r := by omega
  have z2 : (r : Int) ≤ 122 ↔ r ≤ 122 := by omega
  have z3 : (48 : Int) ≤ r ↔ 48 ≤ r := by omega
  have z4 : (r : Int) ≤ 57 ↔ r ≤ 57 := by omega
  go_enter Tryz.func173, Tryz.ntmps173
  go_wp2
  all_goals first | (exfalso; omega) | (go_ret; exact ⟨by simp [h1, h2, h3, h4], 0, rfl⟩)
def letQ (d : Bool) : Nat → Bool := fun r => !(decide (97 ≤ r) && decide (r ≤ 122) || d && (decide (48 ≤ r) && decide (r ≤ 57)))
def tagQ : Nat → Bool := fun r => decide (r < 97) || decide (122 < r)
theorem let_calls (s : ByteArray) (d : Bool) (w : World) (h1 : 1 ≤ s.size) (h2 : s.size ≤ 12) (h3 : Lib.idxFunc (letQ d) true s < 0) :
  Calls Tryz.prog 162 #[.string s, .bool d] w fun e w' => e = .returned (.bool true) ∧ Below w.heap.size w w' := by
 have hC := fun (W : World) (hB : w.heap.size < W.heap.size) (hc : W.cell? ⟨w.heap.size, 0, none⟩ = some (.bool d)) =>
  Any.strings_IndexFunc layI 173 #[.pointer (some ⟨w.heap.size, 0, none⟩)] (enters_of Tryz.func173 (by kernel_rfl) rfl) (letQ d) s W (letP W w.heap.size d hB hc)
 change ∀ W _ _, Calls Tryz.prog 172 _ _ _ at hC
 have z1 : (1 : Int) ≤ s.size := by omega
 have z2 : (s.size : Int) ≤ 12 := by omega
 obtain ⟨I, hI⟩ : ∃ I, Lib.idxFunc (letQ d) true s = I := ⟨_, rfl⟩
 rw [hI] at hC h3
 go_enter Tryz.func162, Tryz.ntmps162
 go_wp2_with (go_at_call 172; refine (hC _ (by simp) (by simp)).mono ?_; rintro e w' ⟨rfl, hb⟩)
 go_ret
 exact ⟨rfl, ((Below.refl _ w).alloc (Nat.le_refl _) _).trans (hb.mono (by simp))⟩
theorem tag_calls (s : ByteArray) (w : World) (h1 : 1 ≤ s.size) (h2 : s.size ≤ 4) (h3 : Lib.idxFunc tagQ true s < 0) :
  Calls Tryz.prog 175 #[.string s] w fun e w' => e = .returned (.bool true) ∧ Below w.heap.size w w' := by
 have hC := fun (W : World) => Any.strings_ContainsFunc layC 188 #[] (enters_of Tryz.func188 (by kernel_rfl) rfl) tagQ s W (tagP W)
 change ∀ W, Calls Tryz.prog 187 _ _ _ at hC
 have z1 : (1 : Int) ≤ s.size := by omega
 have z2 : (s.size : Int) ≤ 4 := by omega
 obtain ⟨I, hI⟩ : ∃ I, Lib.idxFunc tagQ true s = I := ⟨_, rfl⟩
 rw [hI] at hC h3
 go_enter Tryz.func175, Tryz.ntmps175
 go_wp2_with (go_at_call 187; refine (hC _).mono ?_; rintro e w' ⟨rfl, hb⟩)
 have hd : decide (0 ≤ I) = false := decide_eq_false (by omega)
 rw [hd]
 go_ret
 exact ⟨rfl, hb⟩
end Go.Proofs.YtekhlnihpfkkkaaGreatDoor
namespace Go.Proofs.YtekhlnihpfkkkaaGreatDoor
open Go.Eng Go.Lib Go.RowKit
theorem pure_calls {P : Program} {f : FuncId} {args : List PV} {b : Bool} (h : ∀ (F : PHeap) (w : World) (vs : List Value), vs.length = args.length → (∀ (i : Nat) p v, args[i]? = some p → vs[i]? = some v → RelV F noG (.p p) v) → Calls P f vs.toArray w fun e w' => e = .returned (.bool b) ∧ Below w.heap.size w w') : Pure P f args (vbool b) := by
 intro F w vs hsub hglob hlen hrel
 refine (h F w vs hlen hrel).mono ?_
 rintro e w' ⟨rfl, hb⟩
 refine ⟨_, F, rfl, fun k c hk => ?_, fun _ _ => rfl, ⟨hb.os, hb.tape, hb.output, hb.size, hb.block⟩, .one rfl (.p (.v rfl))⟩
 obtain ⟨T, fz, e1⟩ := hsub k c hk
 exact ⟨T, fz, (hb.block k (Array.getElem?_eq_some_iff.1 e1).1).trans e1⟩
theorem relS {F : PHeap} {l : List UInt8} {v : Value} (h : RelV F noG (.p (.s l)) v) : v = .string ⟨l.toArray⟩ := by
 cases h with
 | many hm => cases hm
 | one _ h => cases h with | p h => cases h; rfl
theorem relB {F : PHeap} {b : Bool} {v : Value} (h : RelV F noG (.p (.v (.bool b))) v) : v = .bool b := by
 cases h with
 | many hm => cases hm
 | one _ h => cases h with | p h => cases h; rfl
theorem letters_ok (l : List UInt8) (d : Bool) (h1 : 1 ≤ l.length) (h2 : l.length ≤ 12) (h3 : Lib.idxFunc (letQ d) true ⟨l.toArray⟩ < 0) : Pure Tryz.prog 162 [.s l, eB d] (vbool true) :=
 pure_calls fun F w vs hlen hrel => by
  match vs, hlen with
  | [a, b], _ =>
   have ha := relS (hrel 0 _ a rfl rfl)
   have hb := relB (hrel 1 _ b rfl rfl)
   subst ha hb
   exact let_calls ⟨l.toArray⟩ d w (by show 1 ≤ l.toArray.size; simpa using h1) (by show l.toArray.size ≤ 12; simpa using h2) h3
theorem tag_ok (l : List UInt8) (h1 : 1 ≤ l.length) (h2 : l.length ≤ 4) (h3 : Lib.idxFunc tagQ true ⟨l.toArray⟩ < 0) : Pure Tryz.prog 175 [.s l] (vbool true) :=
 pure_calls fun F w vs hlen hrel => by
  match vs, hlen with
  | [a], _ =>
   have ha := relS (hrel 0 _ a rfl rfl)
   subst ha
   exact tag_calls ⟨l.toArray⟩ w (by show 1 ≤ l.toArray.size; simpa using h1) (by show l.toArray.size ≤ 4; simpa using h2) h3
end Go.Proofs.YtekhlnihpfkkkaaGreatDoor
namespace Go.Proofs.YtekhlnihpfkkkaaGreatDoor
open Go.Eng
theorem ver_ok (h : Nat × Nat) (points : Int) (h1 : h.1 < 4) (hb : h.1 = 0 ∨ (h.2 : Int) < points) : ∃ (c d : Int) (r : List Int), Pure Tryz.prog 10 [eTs (hpM h), eI points] (.tup [.p (.agg [eI c, eI d, eRc r]), vint .i64 0]) := by
 obtain ⟨a, n⟩ := h
 match a, h1, hb with
 | 0, _, _ => exact ⟨0, 0, [], pure_le (verify0_ok points) ⟨⟨rfl, rfl, rfl, trivial⟩, rfl, trivial⟩⟩
 | 1, _, .inr hb => exact ⟨_, _, _, verify1_ok n points (by omega) hb⟩
 | 2, _, .inr hb => exact ⟨_, _, _, verify2_ok n points (by omega) hb⟩
 | 3, _, .inr hb => exact ⟨_, _, _, verify3_ok n points (by omega) hb⟩
theorem okO_nil : OkO [] := ⟨by decide, by decide, fun k hk => by simp at hk⟩
theorem exF_ok : Pure Tryz.prog 44 [eFn exF] (vint .i64 0) := by
 refine fck_ok exF (head_ok exF (letters_ok _ _ (by decide) (by decide) (by decide +kernel)) ⟨by decide, fun k hk => ?_, fun k j hk hj => ?_, fun k hk => ?_⟩ (by decide) (by decide)) (gls_ok exF ⟨by decide, fun k hk => ?_, fun k j hk hj => ?_, fun k hk => ?_, fun k hk hp => ?_, fun k hk hp => ?_, fun k hk => ?_⟩) (chs_ok exF ⟨by decide, fun k hk => by simp [exF] at hk, fun k hk => by simp [exF] at hk⟩) (lks_ok exF ⟨by decide, fun k hk => by simp [exF] at hk⟩) (kern_ok exF ⟨by decide, fun k hk => by simp [exF] at hk, fun k hk => by simp [exF] at hk⟩)
 ·have : k = 0 := by have : k < 1 := hk; omega
  subst this
  exact tag_ok _ (by decide) (by decide) (by decide +kernel)
 ·have : k < 1 := hk
  omega
 ·have : k = 0 := by have : k < 1 := hk; omega
  subst this; decide
 ·have : k < 3 := hk
  rcases k with _ | _ | _ | k <;> first | exact letters_ok _ _ (by decide) (by decide) (by decide +kernel) | omega
 ·have hk : k < 3 := hk
  rcases k with _ | _ | _ | k <;> rcases j with _ | _ | j <;> first | (exfalso; omega) | decide
 ·have : k < 3 := hk
  rcases k with _ | _ | _ | k <;> first | omega | decide
 ·have : k < 3 := hk
  rcases k with _ | _ | _ | k
  ·exact absurd hp (by decide)
  ·exact absurd hp (by decide)
  ·refine ⟨rfl, rfl, rfl, by decide, fun i hi => ?_⟩
   have : i < 2 := hi
   rcases i with _ | _ | i <;> first | omega | decide
  ·omega
 ·have : k < 3 := hk
  rcases k with _ | _ | _ | k
  ·obtain ⟨c, d, r, hv⟩ := ver_ok (0, 0) (cnt ([] : List (List Pt))) (by decide) (.inl rfl)
   exact fsim_ok exF gBlank c d r okO_nil ⟨by decide, fun j hj => by simp [gBlank] at hj, fun j hj => by simp [gBlank] at hj⟩ (by decide) hv
  ·obtain ⟨c, d, r, hv⟩ := ver_ok (1, 0) (cnt [barC]) (by decide) (.inr (by decide))
   refine fsim_ok exF gBar c d r ⟨by decide, by decide, fun i hi => ?_⟩ ⟨by decide, fun j hj => ?_, fun j hj i hi => ?_⟩ (by decide) hv
   ·have : i < 1 := hi
    have e : i = 0 := by omega
    subst e
    refine ⟨by decide, by decide, fun j hj => ?_⟩
    have : j < 4 := hj
    rcases j with _ | _ | _ | _ | j <;> first | omega | decide
   ·have : j < 1 := hj
    have e : j = 0 := by omega
    subst e; decide
   ·have : j < 1 := hj
    have e : j = 0 := by omega
    subst e
    have : i < 4 := hi
    rcases i with _ | _ | _ | _ | i <;> first | omega | decide
  ·exact absurd hp (by decide)
  ·omega
 ·have : k < 3 := hk
  have e : (exF.gls.getD k gl0).alts = [] := by rcases k with _ | _ | _ | k <;> first | rfl | omega
  rw [e]
  exact ⟨by decide, fun i hi => by simp at hi, fun i j hi => by simp at hi⟩
end Go.Proofs.YtekhlnihpfkkkaaGreatDoor
namespace Go.Proofs.YtekhlnihpfkkkaaGreatDoor
open Go.Eng
def shP (x y : Int) : List (List Pt) := ou1.map (·.map fun p => (p.1 + x, p.2.1 + y, p.2.2))
def pcCo : FuncId → List PV → Option D := fun f ar =>
 bif Nat.beq f 26 then some (vint .i64 0)
 else bif Nat.beq f 51 then some (.p (eO ou1))
 else bif Nat.beq f 50 then (match ar with
  | [_, .v (.int _ x), .v (.int _ y)] => some (.p (eO (shP x y)))
  | _ => none)
 else none
def hCo : FuncId → FH := fun f => bif Nat.beq f 8 then { rounds := 5, pc := pcCo, reg := fun r => bif Nat.beq r 7 then { g := 1, lit := true, za := List.range 60 } else bif Nat.beq r 8 then { g := 1, lit := true, frz := [11] } else { g := 1, lit := true } } else { rounds := 5, pc := pcCo, reg := fun _ => { g := 1, lit := true } }
set_option maxRecDepth 100000 in
theorem outT_ok (hc : Pure Tryz.prog 26 [eFn exF, eI 2, eIs [0], eI 8] (vint .i64 0)) (hs : Pure Tryz.prog 51 [eGl gBar, eIs [0], eI 8] (.p (eO ou1))) (h0 : Pure Tryz.prog 50 [eO ou1, eI 0, eI 0] (.p (eO (shP 0 0)))) (h1 : Pure Tryz.prog 50 [eO ou1, eI 256, eI 0] (.p (eO (shP 256 0)))) : Pure Tryz.prog 8 [eFn exF, eI 2, eIs [0], eI 8] (.tup [.p (eO ou2), vint .i64 0]) := by
 let K : D → Prop := fun d => endL (.tup [.p (eO ou2), vint .i64 0]) d []
 refine pure_byL 20 hCo (p :=
  let a0_8 : PV := PV.v (Value.int IntKind.i64 (Int.ofNat 0)); let a0_7 : List (List Pt) := shP (Int.ofNat 0) (Int.ofNat 0); let a0_6 : List PV := [a0_8]; let a0_5 : List (List Pt) := shP (Int.ofNat 256) (Int.ofNat 0); let a0_4 : PV := PV.lst 1 1 fun (i : Nat) => eC (ou1.getD i []); let a0_3 : List PV := [PV.lst 1 1 fun (i : Nat) => eI ([(0 : Int)].getD i (0 : Int)), PV.v (Value.int IntKind.i64 (Int.ofNat 8))]; let a0_2 : List D := List.map (fun (x : Nat × D) => x.snd) [(0, D.p (PV.lst 3 4 fun (i : Nat) => ePt ((a0_5.getD 0 []).getD i pt0)))]; let a0_1 : List D := List.map (fun (x : Nat × D) => x.snd) [(0, D.p (PV.lst 3 4 fun (i : Nat) => ePt ((a0_7.getD 0 []).getD i pt0)))]; let a0_0 : Prop := Eng.Pure Tryz.prog 51 (PV.agg [PV.s (exF.gls.getD 1 gl0).name, PV.v (Value.int IntKind.i64 (Int.ofNat 32)), PV.lst 1 1 fun (i : Nat) => eC ((exF.gls.getD 1 gl0).out.getD i []), PV.lst 2 1 fun (i : Nat) => eDl ((exF.gls.getD 1 gl0).del.getD i dl0), PV.lst 3 0 fun (i : Nat) => eT ((exF.gls.getD 1 gl0).parts.getD i tn0), PV.lst 3 3 fun (i : Nat) => eT ((hpM (exF.gls.getD 1 gl0).hint).getD i tn0), PV.lst 1 0 fun (i : Nat) => eI ((exF.gls.getD 1 gl0).alts.getD i (0 : Int))] :: a0_3) (D.p (eO ou1)); Eng.Pure Tryz.prog 26 (PV.agg [PV.s exF.name, a0_8, PV.lst 4 1 fun (i : Nat) => eAx (exF.axes.getD i ax0), PV.lst 7 3 fun (i : Nat) => eGl (exF.gls.getD i gl0), PV.lst 2 0 fun (i : Nat) => eR (exF.chars.getD i ((0 : Int), (0 : Int))), PV.lst 1 0 fun (i : Nat) => eLk (exF.lks.getD i []), PV.lst 3 0 fun (i : Nat) => eT (exF.kerns.getD i tn0)] :: PV.v (Value.int IntKind.i64 (Int.ofNat 2)) :: a0_3) (vint IntKind.i64 (0 : Int)) ∧ a0_0 ∧ Eng.Pure Tryz.prog 50 (a0_4 :: a0_8 :: a0_6) (D.p (eO a0_7)) ∧ a0_0 ∧ Eng.Pure Tryz.prog 50 (a0_4 :: PV.v (Value.int IntKind.i64 (Int.ofNat 256)) :: a0_6) (D.p (eO a0_5)) ∧ (∀ (j : Nat), let a1_0 : D := appF (appF (fun (x : Nat) => default) 0 fun (j : Nat) => a0_1.getD j default) 1 (fun (j : Nat) => a0_2.getD j default) j; j < 2 → a1_0 = D.p a1_0.unP) ∧ K (D.tup [D.p (PV.lst 1 2 fun (j : Nat) => (appF (appF (fun (x : Nat) => default) 0 fun (j : Nat) => a0_1.getD j default) 1 (fun (j : Nat) => a0_2.getD j default) j).unP), D.p a0_8])) (by kernel_rfl) ?_
 refine ⟨hc, hs, h0, hs, h1, fun j hj => ?_, ⟨rfl, fun j hj => ?_⟩, rfl, trivial⟩
 ·rcases j with _ | _ | j <;> first | rfl | (exfalso; omega)
 ·rcases j with _ | _ | j
  ·exact ⟨rfl, fun i hi => by rcases i with _ | _ | _ | _ | i <;> first | exact leP_refl _ | (exfalso; omega)⟩
  ·exact ⟨rfl, fun i hi => by rcases i with _ | _ | _ | _ | i <;> first | exact leP_refl _ | (exfalso; omega)⟩
  ·omega
end Go.Proofs.YtekhlnihpfkkkaaGreatDoor
namespace Go.Proofs.YtekhlnihpfkkkaaGreatDoor
open Go.Eng
def pcDr (o g : List (List Pt)) (a b w h : Int) (l : List Bool) : FuncId → List PV → Option D := fun f _ =>
 bif Nat.beq f 8 then some (.tup [.p (eO o), vint .i64 0]) else bif Nat.beq f 38 then some (.p (eO g)) else bif Nat.beq f 37 then some (.tup [.p (ePic a b w h l), vint .i64 0]) else none
def hDr (o g : List (List Pt)) (a b w h : Int) (l : List Bool) : FuncId → FH := fun _ => { rounds := 5, pc := pcDr o g a b w h l, reg := fun _ => { g := 1, sh := none } }
def selS (s : Int) : List (List Pt) := if s = 8 then ou1 else ou3
def selP (g : Int) : PV := if g = 1 then ePic 1 0 3 7 dt1 else ePic 1 0 7 7 dt2
def selU (g : Int) : List Int := if g = 2 then [1, 2] else []
def pcSa : FuncId → List PV → Option D := fun f ar =>
 bif Nat.beq f 13 then some (.p (eFn exF))
 else bif Nat.beq f 8 then (match ar with
  | [_, _, _, .v (.int _ s)] => some (.tup [.p (eO (selS s)), vint .i64 0])
  | _ => none)
 else bif Nat.beq f 14 then (match ar with
  | [_, .v (.int _ g), _, _] => some (.tup [.p (selP g), vint .i64 0])
  | _ => none)
 else bif Nat.beq f 15 then some (vbool true) else bif Nat.beq f 18 then some (vbool true)
 else bif Nat.beq f 17 then (match ar with
  | [_, .v (.int _ g)] => some (.p (eIs (selU g)))
  | _ => none)
 else none
def csSa (r : Nat) : List (Nat × D) :=
 bif Nat.beq r 2 || Nat.beq r 4 || Nat.beq r 5 then [(1, .p (eIs [0]))] else bif Nat.beq r 3 then [(1, .p (eIs [32]))]
 else bif Nat.beq r 8 then [(5, .p (eC (ou1.getD 0 []))), (6, .p (eO ou1)), (14, .p (eC (ou3.getD 0 []))), (15, .p (eO ou3))]
 else bif Nat.beq r 10 then [(3, .p (eBs [true, true, false])), (8, .p (eBs [true, true, false, false, true, true, false]))] else []
def hSa : FuncId → FH := fun f => bif Nat.beq f 4 then { rounds := 5, pc := pcSa, reg := fun r => { g := 1, lit := true, cs := csSa r } } else { rounds := 5, pc := pcSa, reg := fun _ => { g := 1, lit := true } }
set_option maxRecDepth 100000 in
theorem draw_ok (o g : List (List Pt)) (a b w h : Int) (l : List Bool) (n s : Int) (p : List Int) (h8 : Pure Tryz.prog 8 [eFn exF, eI n, eIs p, eI s] (.tup [.p (eO o), vint .i64 0])) (h38 : Pure Tryz.prog 38 [eO o] (.p (eO g))) (h37 : Pure Tryz.prog 37 [eO g, eI 2048] (.tup [.p (ePic a b w h l), vint .i64 0])) : Pure Tryz.prog 14 [eFn exF, eI n, eIs p, eI s] (.tup [.p (ePic a b w h l), vint .i64 0]) := by
 let K : D → Prop := fun d => endL (.tup [.p (ePic a b w h l), vint .i64 0]) d []
 refine pure_byL 20 (hDr o g a b w h l) (p :=
  let a0_0 : List D := [vint IntKind.i64 (0 : Int)]; Eng.Pure Tryz.prog 8 [PV.agg [PV.s exF.name, PV.v (Value.int IntKind.i64 exF.ver), PV.lst 4 1 fun (i : Nat) => eAx (exF.axes.getD i ax0), PV.lst 7 3 fun (i : Nat) => eGl (exF.gls.getD i gl0), PV.lst 2 0 fun (i : Nat) => eR (exF.chars.getD i ((0 : Int), (0 : Int))), PV.lst 1 0 fun (i : Nat) => eLk (exF.lks.getD i []), PV.lst 3 0 fun (i : Nat) => eT (exF.kerns.getD i tn0)], PV.v (Value.int IntKind.i64 n), PV.lst 1 p.length fun (i : Nat) => eI (p.getD i (0 : Int)), PV.v (Value.int IntKind.i64 s)] (D.tup (D.p (eO o) :: a0_0)) ∧ Eng.Pure Tryz.prog 38 [PV.lst 1 o.length fun (i : Nat) => eC (o.getD i [])] (D.p (eO g)) ∧ Eng.Pure Tryz.prog 37 [PV.lst 1 g.length fun (i : Nat) => eC (g.getD i []), PV.v (Value.int IntKind.i64 (2048 : Int))] (D.tup (D.p (ePic a b w h l) :: a0_0)) ∧ K (D.tup [D.p (PV.agg [PV.v (Value.int IntKind.i64 a), PV.v (Value.int IntKind.i64 b), PV.agg [eI w, eI h, eBs l]]), D.p (PV.v (Value.int IntKind.i64 (0 : Int)))])) (by kernel_rfl) ?_
 exact ⟨h8, h38, h37, leP_refl _, rfl, trivial⟩
set_option maxRecDepth 100000 in
theorem sanity_of (h1 : Pure Tryz.prog 8 [eFn exF, eI 1, eIs [0], eI 8] (.tup [.p (eO ou1), vint .i64 0])) (h3 : Pure Tryz.prog 8 [eFn exF, eI 1, eIs [32], eI 6] (.tup [.p (eO ou3), vint .i64 0])) (h2 : Pure Tryz.prog 8 [eFn exF, eI 2, eIs [0], eI 8] (.tup [.p (eO ou2), vint .i64 0])) : Pure Tryz.prog 4 [] (vbool true) := by
 let K : D → Prop := fun d => endL (vbool true) d []
 have d1 := draw_ok ou1 pg1 1 0 3 7 dt1 1 8 [0] h1 flat1_ok (dt1_eq ▸ dots1_ok)
 have d2 := draw_ok ou2 pg2 1 0 7 7 dt2 2 8 [0] h2 flat2_ok (dt2_eq ▸ dots2_ok)
 refine pure_byL 20 hSa (p :=
  let a0_24 : PV := PV.v (Value.int IntKind.i64 (3 : Int)); let a0_23 : PV := PV.v (Value.int IntKind.i64 (2 : Int)); let a0_22 : PV := PV.v (Value.int IntKind.i64 (1 : Int)); let a0_21 : PV := PV.v (Value.int IntKind.i64 (Int.ofNat 168)); let a0_20 : PV := PV.v (Value.int IntKind.i64 (Int.ofNat 192)); let a0_19 : PV := PV.v (Value.int IntKind.i64 (Int.ofNat 0)); let a0_18 : PV := PV.v (Value.int IntKind.i64 (Int.ofNat 1)); let a0_17 : List Int := [(32 : Int)]; let a0_16 : List Int := [(0 : Int)]; let a0_15 : PV := PV.v (Value.int IntKind.i64 (Int.ofNat 7)); let a0_14 : PV := PV.v (Value.int IntKind.i64 (Int.ofNat 64)); let a0_13 : List D := [vint IntKind.i64 (0 : Int)]; let a0_12 : List Pt := ou3.getD 0 []; let a0_11 : List Pt := ou1.getD 0 []; let a0_10 : List Bool := [true, true, false]; let a0_9 : List PV := [PV.v (Value.int IntKind.i64 (0 : Int))]; let a0_8 : List PV := [PV.v (Value.bool true), PV.v (Value.bool true), PV.v (Value.bool false)]; let a0_7 : List PV := [a0_19, PV.v (Value.bool true)]; let a0_6 : List PV := [PV.v (Value.int IntKind.i64 (Int.ofNat 384)), PV.v (Value.bool true)]; let a0_5 : List PV := [PV.v (Value.int IntKind.i64 (Int.ofNat 288)), PV.v (Value.bool true)]; let a0_4 : List Bool := true :: true :: false :: false :: a0_10; let a0_3 : PV := PV.agg (a0_14 :: a0_7); let a0_2 : List PV := [PV.lst 1 1 fun (i : Nat) => eI (a0_16.getD i (0 : Int)), PV.v (Value.int IntKind.i64 (8 : Int))]; let a0_1 : PV := PV.agg [PV.s exF.name, a0_19, PV.lst 4 1 fun (i : Nat) => eAx (exF.axes.getD i ax0), PV.lst 7 3 fun (i : Nat) => eGl (exF.gls.getD i gl0), PV.lst 2 0 fun (i : Nat) => eR (exF.chars.getD i ((0 : Int), (0 : Int))), PV.lst 1 0 fun (i : Nat) => eLk (exF.lks.getD i []), PV.lst 3 0 fun (i : Nat) => eT (exF.kerns.getD i tn0)]; let a0_0 : List PV := a0_1 :: a0_22 :: a0_2; Eng.Pure Tryz.prog 13 [] (D.p (eFn exF)) ∧ (∀ (j : Nat), j < 1 → a0_9.getD j default = eI (a0_16.getD j (0 : Int))) ∧ Eng.Pure Tryz.prog 8 a0_0 (D.tup (D.p (eO (selS (8 : Int))) :: a0_13)) ∧ (∀ (j : Nat), j < 1 → [PV.v (Value.int IntKind.i64 (32 : Int))].getD j default = eI (a0_17.getD j (0 : Int))) ∧ Eng.Pure Tryz.prog 8 [a0_1, a0_22, PV.lst 1 1 fun (i : Nat) => eI (a0_17.getD i (0 : Int)), PV.v (Value.int IntKind.i64 (6 : Int))] (D.tup (D.p (eO (selS (6 : Int))) :: a0_13)) ∧ (∀ (j : Nat), j < 1 → a0_9.getD j default = eI (a0_16.getD j (0 : Int))) ∧ Eng.Pure Tryz.prog 14 a0_0 (D.tup (D.p (selP (1 : Int)) :: a0_13)) ∧ (∀ (j : Nat), j < 1 → a0_9.getD j default = eI (a0_16.getD j (0 : Int))) ∧ Eng.Pure Tryz.prog 14 (a0_1 :: a0_23 :: a0_2) (D.tup (D.p (selP (2 : Int)) :: a0_13)) ∧ (∀ (j : Nat), j < 4 → [a0_3, PV.agg (a0_20 :: a0_7), PV.agg (a0_20 :: a0_6), PV.agg (a0_14 :: a0_6)].getD j default = ePt (a0_11.getD j pt0)) ∧ (∀ (j : Nat), j < 1 → [PV.lst 3 4 fun (i : Nat) => ePt (a0_11.getD i pt0)].getD j default = eC (ou1.getD j [])) ∧ Eng.Pure Tryz.prog 15 [PV.lst 1 1 fun (i : Nat) => eC ((selS (8 : Int)).getD i []), PV.lst 1 1 fun (i : Nat) => eC (ou1.getD i [])] (vbool true) ∧ (∀ (j : Nat), j < 4 → [a0_3, PV.agg (a0_21 :: a0_7), PV.agg (a0_21 :: a0_5), PV.agg (PV.v (Value.int IntKind.i64 (Int.ofNat 48)) :: a0_5)].getD j default = ePt (a0_12.getD j pt0)) ∧ (∀ (j : Nat), j < 1 → [PV.lst 3 4 fun (i : Nat) => ePt (a0_12.getD i pt0)].getD j default = eC (ou3.getD j [])) ∧ Eng.Pure Tryz.prog 15 [PV.lst 1 1 fun (i : Nat) => eC ((selS (6 : Int)).getD i []), PV.lst 1 1 fun (i : Nat) => eC (ou3.getD i [])] (vbool true) ∧ Eng.Pure Tryz.prog 17 [a0_1, a0_23] (D.p (eIs (selU (2 : Int)))) ∧ (∀ (j : Nat), j < 3 → a0_8.getD j default = eB (a0_10.getD j false)) ∧ Eng.Pure Tryz.prog 18 [PV.agg [a0_18, a0_19, PV.agg [PV.v (Value.int IntKind.i64 (Int.ofNat 3)), a0_15, PV.lst 1 21 fun (i : Nat) => eB (dt1.getD i false)]], a0_24, PV.lst 1 3 fun (i : Nat) => eB (a0_10.getD i false)] (vbool true) ∧ (∀ (j : Nat), j < 7 → (PV.v (Value.bool true) :: PV.v (Value.bool true) :: PV.v (Value.bool false) :: PV.v (Value.bool false) :: a0_8).getD j default = eB (a0_4.getD j false)) ∧ Eng.Pure Tryz.prog 18 [PV.agg [a0_18, a0_19, PV.agg [a0_15, a0_15, PV.lst 1 49 fun (i : Nat) => eB (dt2.getD i false)]], PV.v (Value.int IntKind.i64 (7 : Int)), PV.lst 1 7 fun (i : Nat) => eB (a0_4.getD i false)] (vbool true) ∧ Eng.Pure Tryz.prog 17 [a0_1, a0_24] (D.p (eIs (selU (3 : Int)))) ∧ K (D.p (PV.v (Value.bool true)))) (by kernel_rfl) ?_
 refine ⟨ex_ok, ?_, h1, ?_, h3, ?_, d1, ?_, d2, ?_, ?_, same1_ok, ?_, ?_, same3_ok, used2_ok, ?_, cols1_ok, ?_, cols2_ok, used3_ok, leP_refl _⟩
 all_goals (intro j hj; rcases j with _ | _ | _ | _ | _ | _ | _ | j <;> first | rfl | (exfalso; omega))
end Go.Proofs.YtekhlnihpfkkkaaGreatDoor
namespace Go.Proofs.YtekhlnihpfkkkaaGreatDoor
open Go.Eng
theorem idle95 : Idle Tryz.prog 95 3 := by
 intro n vs w hs
 obtain ⟨x0, x1, x2, rfl⟩ : ∃ x0 x1 x2, vs = #[x0, x1, x2] := ⟨vs[0], vs[1], vs[2], by
  apply Array.ext
  ·simp [hs]
  ·intro i h1 h2
   rcases i with _ | _ | _ | i
   ·rfl
   ·rfl
   ·rfl
   ·simp at h2; omega⟩
 have hf : Tryz.prog.funcs[95]? = some Tryz.f95 := by kernel_rfl
 refine callsDIn_of_wpSIn (F := Fence.wide) hf rfl trivial fun c₀ cs hu => ?_
 have hr : Tryz.f95.results = #[] := rfl
 have hn : Tryz.f95.ntmps = 9 := rfl
 apply wpSIn_seq
 apply wpSIn_region
 simp [wpOpsSIn, go_sem, recoverD, hu, hn, Exit.thenS]
 apply wpSIn_seq
 apply wpSIn_region
 simp [wpOpsSIn, go_sem, recoverD, hu, hn, Exit.thenS]
 refine wpSIn_cond (t := false) (by simp [Act.eval, Array.replicate]) ?_
 simp only [Bool.false_eq_true, if_false]
 refine wpSIn_of_wpIn rfl (wpIn_skip ?_)
 cases c₀
 simp_all [bodyPostS, results]
end Go.Proofs.YtekhlnihpfkkkaaGreatDoor
