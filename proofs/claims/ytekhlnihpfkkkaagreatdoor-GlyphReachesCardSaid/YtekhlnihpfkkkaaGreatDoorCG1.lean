/-
  GlyphReaches: whatever the input, the call returns true, and each argument reads afterwards as it read before; tied to the program's text. (Part 1 of 6 of its proof.)
-/
import Derived.WalkKit
import Derived.MapKept
import Derived.WalkSpells
import Derived.WalkLawsBesides
import Derived.Great.FillDense
import Derived.Lib.Strings
import Derived.ChangeKeysEq
import Derived.BigQuiet
import Derived.Laws.MakeOwn
import Derived.Great.BuildSlice
import Derived.Laws.CopyOwn
import Derived.Deep.LoopGhost
import Derived.StillTailTactics
set_option linter.unusedSimpArgs false
set_option linter.unusedVariables false
namespace Go.Eng
inductive PV where
 | v (x : Value)
 | s (l : List UInt8)
 | agg (l : List PV)
 | vec (sz n : Nat) (f : Nat → PV)
 | lst (sz n : Nat) (f : Nat → PV)
 | pel (x : PV)
instance : Inhabited PV := ⟨.v (.bool false)⟩
mutual
def PV.size : PV → Nat
 | .v _ => 1
 | .s _ => 1
 | .agg l => PV.sizes l
 | .vec sz n _ => n * sz
 | .lst _ _ _ => 1
 | .pel _ => 1
def PV.sizes : List PV → Nat
 | [] => 0
 | p :: l => p.size + PV.sizes l
end
def kindPV (s : List UInt8) (n m : Bool) (t p : Int) : PV := .agg [.s s, .v (.bool n), .v (.bool m), .v (.int .i64 t), .v (.int .i64 p)]
def kindsL : List PV := [kindPV [] false false 0 0, kindPV [112, 117, 115, 104] true false 0 1, kindPV [97, 100, 100] false false 2 1, kindPV [115, 117, 98] false false 2 1, kindPV [109, 105, 110] false false 2 1, kindPV [109, 97, 120] false false 2 1,
 kindPV [110, 101, 103] false false 1 1, kindPV [104, 97, 108, 102] false false 1 1, kindPV [114, 111, 117, 110, 100] false false 1 1, kindPV [115, 105, 122, 101] false false 0 1, kindPV [103, 101, 116, 120] true false 0 1, kindPV [103, 101, 116, 121] true false 0 1,
 kindPV [115, 101, 116, 120] true false 1 0, kindPV [115, 101, 116, 121] true false 1 0, kindPV [105, 102] true false 1 0, kindPV [108, 111, 111, 112] true true 0 0]
def checksL : List PV := [157, 158, 159, 160, 161].map fun f => .agg [.v (.func (.func f) #[] #[])]
def globPV : Nat → Option PV
 | 0 => some (.vec 5 16 fun i => kindsL.getD i default)
 | 1 => some (.lst 1 5 fun i => checksL.getD i default)
 | _ => none
abbrev PHeap := Nat → Option (Array Value)
inductive RelP (F : PHeap) : PV → List Value → Prop where
 | v {x : Value} : x.oneCell' = true → RelP F (.v x) [x]
 | s {l : List UInt8} : RelP F (.s l) [.string ⟨l.toArray⟩]
 | nil : RelP F (.agg []) []
 | cons {p l c1 c2} : RelP F p c1 → RelP F (.agg l) c2 → RelP F (.agg (p :: l)) (c1 ++ c2)
 | vec {sz n f cs} : cs.length = n * sz → (∀ i, i < n → RelP F (f i) ((cs.drop (i * sz)).take sz)) → RelP F (.vec sz n f) cs
 | lst0 {sz f a cap} : RelP F (.lst sz 0 f) [.slice a 0 cap]
 | lst {sz n f b off cap c} : F b = some c → n ≤ cap → off + n * sz ≤ c.size → (∀ i, i < n → RelP F (f i) ((c.toList.drop (off + i * sz)).take sz)) → RelP F (.lst sz n f) [.slice (some ⟨b, off, none⟩) n cap]
 | pel {x b off c} : F b = some c → off + x.size ≤ c.size → RelP F x ((c.toList.drop off).take x.size) → RelP F (.pel x) [.pointer (some ⟨b, off, none⟩)]
theorem RelP.length {F p cs} (h : RelP F p cs) : cs.length = p.size := by
 induction h with
 | v _ => rfl
 | s => rfl
 | nil => rfl
 | cons _ _ h1 h2 => simp only [List.length_append, h1, h2]; rfl
 | vec h _ _ => exact h
 | lst0 => rfl
 | lst => rfl
 | pel => rfl
theorem RelP.one {F p cs} (h : RelP F p cs) : ∀ u ∈ cs, u.oneCell' = true := by
 induction h with
 | v h => intro u hu; simp only [List.mem_singleton] at hu; rw [hu]; exact h
 | s => intro u hu; simp only [List.mem_singleton] at hu; rw [hu]; rfl
 | nil => intro u hu; cases hu
 | cons _ _ h1 h2 => intro u hu; rcases List.mem_append.1 hu with h | h; exact h1 u h; exact h2 u h
 | @vec sz n f cs hl _ ih =>
  intro u hu
  obtain ⟨k, hk, rfl⟩ := List.getElem_of_mem hu
  by_cases hs : sz = 0
  ·subst hs; simp at hl; subst hl; simp at hk
  have hq : k / sz < n := by rw [Nat.div_lt_iff_lt_mul (by omega)]; omega
  refine ih (k / sz) hq _ ?_
  have e : k / sz * sz + k % sz = k := by rw [Nat.mul_comm]; exact Nat.div_add_mod k sz
  have hm := Nat.mod_lt k (show 0 < sz by omega)
  rw [List.mem_iff_getElem?]
  refine ⟨k % sz, ?_⟩
  rw [List.getElem?_take, if_pos hm, List.getElem?_drop, e]
  exact List.getElem?_eq_getElem hk
 | lst0 => intro u hu; simp only [List.mem_singleton] at hu; rw [hu]; rfl
 | lst => intro u hu; simp only [List.mem_singleton] at hu; rw [hu]; rfl
 | pel => intro u hu; simp only [List.mem_singleton] at hu; rw [hu]; rfl
theorem RelP.mono {F F' : PHeap} (hF : ∀ b c, F b = some c → F' b = some c) {p cs} (h : RelP F p cs) : RelP F' p cs := by
 induction h with
 | v h => exact .v h
 | s => exact .s
 | nil => exact .nil
 | cons _ _ h1 h2 => exact .cons h1 h2
 | vec hl _ ih => exact .vec hl ih
 | lst0 => exact .lst0
 | lst h1 h2 h3 _ ih => exact .lst (hF _ _ h1) h2 h3 ih
 | pel h1 h2 _ ih => exact .pel (hF _ _ h1) h2 ih
inductive Step where
 | fld (k off : Nat)
 | elt (i sz : Nat)
def Step.off : Step → Nat
 | .fld _ o => o
 | .elt i s => i * s
def offs : List Step → Nat
 | [] => 0
 | s :: l => s.off + offs l
inductive D where
 | p (x : PV)
 | agg (l : List D)
 | vec (sz n : Nat) (f : Nat → D)
 | tup (l : List D)
 | own (i : Nat)
 | ref (i : Nat) (path : List Step)
 /-- The first n elements of the slice that is object i. -/
 | part (i n : Nat)
 | fn (f : FuncId) (first caps : List D)
instance : Inhabited D := ⟨.p default⟩
mutual
def D.size : D → Nat
 | .p x => x.size
 | .agg l => D.sizes l
 | .vec sz n _ => n * sz
 | .tup _ => 1
 | .own _ => 1
 | .ref _ _ => 1
 | .part _ _ => 1
 | .fn _ _ _ => 1
def D.sizes : List D → Nat
 | [] => 0
 | d :: l => d.size + D.sizes l
end
def blk : Value → Option Nat
 | .pointer (some a) => some a.block
 | .slice (some a) _ _ => some a.block
 | .map (some r) => some r
 | _ => none
abbrev Gm := Nat → Option Value
def noG : Gm := fun _ => none
def updG (γ : Gm) (n : Nat) (g : Value) : Gm := fun i => if i = n then some g else γ i
inductive RelD (F : PHeap) (γ : Gm) : D → List Value → Prop where
 | p {x cs} : RelP F x cs → RelD F γ (.p x) cs
 | nil : RelD F γ (.agg []) []
 | cons {p l c1 c2} : RelD F γ p c1 → RelD F γ (.agg l) c2 → RelD F γ (.agg (p :: l)) (c1 ++ c2)
 | vec {sz n f cs} : cs.length = n * sz → (∀ i, i < n → RelD F γ (f i) ((cs.drop (i * sz)).take sz)) → RelD F γ (.vec sz n f) cs
 | own {i g} : γ i = some g → g.oneCell' = true → RelD F γ (.own i) [g]
 | ref {i path g b} : γ i = some g → blk g = some b → RelD F γ (.ref i path) [.pointer (some ⟨b, offs path, none⟩)]
 | part {i n a m cap} : γ i = some (.slice a m cap) → RelD F γ (.part i n) [.slice a n cap]
 | fn {f first caps us vs} : RelD F γ (.agg first) us → RelD F γ (.agg caps) vs → RelD F γ (.fn f first caps) [.func (.func f) us.toArray vs.toArray]
theorem RelD.length {F γ p cs} (h : RelD F γ p cs) : cs.length = p.size := by
 induction h with
 | p h => exact h.length
 | nil => rfl
 | cons _ _ h1 h2 => simp only [List.length_append, h1, h2]; rfl
 | vec h _ _ => exact h
 | own => rfl
 | ref => rfl
 | part => rfl
 | fn => rfl
theorem RelD.one {F γ p cs} (h : RelD F γ p cs) : ∀ u ∈ cs, u.oneCell' = true := by
 induction h with
 | p h => exact h.one
 | nil => intro u hu; cases hu
 | cons _ _ h1 h2 => intro u hu; rcases List.mem_append.1 hu with h | h; exact h1 u h; exact h2 u h
 | @vec sz n f cs hl _ ih =>
  intro u hu
  obtain ⟨k, hk, rfl⟩ := List.getElem_of_mem hu
  by_cases hs : sz = 0
  ·subst hs; simp at hl; subst hl; simp at hk
  have hq : k / sz < n := by rw [Nat.div_lt_iff_lt_mul (by omega)]; omega
  refine ih (k / sz) hq _ ?_
  have e : k / sz * sz + k % sz = k := by rw [Nat.mul_comm]; exact Nat.div_add_mod k sz
  have hm := Nat.mod_lt k (show 0 < sz by omega)
  rw [List.mem_iff_getElem?]
  refine ⟨k % sz, ?_⟩
  rw [List.getElem?_take, if_pos hm, List.getElem?_drop, e]
  exact List.getElem?_eq_getElem hk
 | own _ h => intro u hu; simp only [List.mem_singleton] at hu; rw [hu]; exact h
 | ref => intro u hu; simp only [List.mem_singleton] at hu; rw [hu]; rfl
 | part => intro u hu; simp only [List.mem_singleton] at hu; rw [hu]; rfl
 | fn => intro u hu; simp only [List.mem_singleton] at hu; rw [hu]; rfl
theorem RelD.mono {F F' : PHeap} {γ γ' : Gm} (hF : ∀ b c, F b = some c → F' b = some c) (hγ : ∀ (i : Nat) g, γ i = some g → γ' i = some g) {p cs} (h : RelD F γ p cs) : RelD F' γ' p cs := by
 induction h with
 | p h => exact .p (h.mono hF)
 | nil => exact .nil
 | cons _ _ h1 h2 => exact .cons h1 h2
 | vec hl _ ih => exact .vec hl ih
 | own h1 h2 => exact .own (hγ _ _ h1) h2
 | ref h1 h2 => exact .ref (hγ _ _ h1) h2
 | part h1 => exact .part (hγ _ _ h1)
 | fn _ _ ih1 ih2 => exact .fn ih1 ih2
def PV.many : PV → Bool
 | .agg _ => true
 | .vec _ _ _ => true
 | _ => false
def D.many : D → Bool
 | .p x => x.many
 | .agg _ => true
 | .vec _ _ _ => true
 | _ => false
inductive RelV (F : PHeap) (γ : Gm) : D → Value → Prop where
 | one {d v} : d.many = false → RelD F γ d [v] → RelV F γ d v
 | many {d cs} : d.many = true → RelD F γ d cs → RelV F γ d (.agg cs.toArray)
 | tup {ds : List D} {vs : List Value} : vs.length = ds.length → (∀ (i : Nat) d v, ds[i]? = some d → vs[i]? = some v → RelV F γ d v) → RelV F γ (.tup ds) (.tuple vs.toArray)
theorem RelV.mono {F F' : PHeap} {γ γ' : Gm} (hF : ∀ b c, F b = some c → F' b = some c) (hγ : ∀ (i : Nat) g, γ i = some g → γ' i = some g) {d v} (h : RelV F γ d v) : RelV F' γ' d v := by
 induction h with
 | one h1 h2 => exact .one h1 (h2.mono hF hγ)
 | many h1 h2 => exact .many h1 (h2.mono hF hγ)
 | tup h1 _ ih => exact .tup h1 ih
/-! ### Objects -/
inductive KD where
 | one (k : IntKind)
 | arr (n : Nat) (k : IntKind)
def KD.val : KD → List Int → Value
 | .one k, ks => .int k (ks.headD 0)
 | .arr _ k, ks => .agg (ks.map fun a => Value.int k a).toArray
def KD.len : KD → Nat
 | .one _ => 1
 | .arr n _ => n
abbrev Ents := List (List Int × Value)
def findE (ks : List Int) : Ents → Nat → Option (Nat × Value)
 | [], _ => none
 | (k, v) :: l, i => if ks = k then some (i, v) else findE ks l (i + 1)
def EntsOf (kd : KD) (es : List MapEntry) (L : Ents) : Prop := es.map (fun e => (e.key, e.val)) = L.map (fun x => (kd.val x.1, x.2)) ∧ ∀ x ∈ L, x.1.length = kd.len
inductive O where
 | free
 | dead
 | box (d : D)
 | arr (e sz n : Nat) (f : Nat → D)
 | map (kd : KD) (f : List Int → Option PV)
def O.alive : O → Bool
 | .free => false
 | .dead => false
 | _ => true
inductive RelO (F : PHeap) (γ : Gm) (w : World) : O → Value → Prop where
 | dead {g} : RelO F γ w .dead g
 | box {d b c T} : w.heap[b]? = some (.cells c T (0, 0)) → RelD F γ d c.toList → RelO F γ w (.box d) (.pointer (some ⟨b, 0, none⟩))
 | arr0 {e sz f} : RelO F γ w (.arr e sz 0 f) (.slice none 0 0)
 | arr {e sz n f b cap c} : w.heap[b]? = some (.cells c e (0, 0)) → n ≤ cap → cap ≤ maxLen → c.size = cap * sz → (∀ i, i < n → RelD F γ (f i) ((c.toList.drop (i * sz)).take sz)) →
   RelO F γ w (.arr e sz n f) (.slice (some ⟨b, 0, none⟩) n cap)
 | map {kd f b es ck L} : w.heap[b]? = some (.map es ck) → EntsOf kd es.toList L → MapKept.Stamped es ck ∧ (∀ ks, ks.length = kd.len → (findE ks L 0 = none ∧ f ks = none) ∨ ∃ i v p, findE ks L 0 = some (i, v) ∧ f ks = some p ∧ p.many = false ∧ RelP F p [v]) →
   RelO F γ w (.map kd f) (.map (some b))
def Sub (F : PHeap) (w : World) : Prop := ∀ b c, F b = some c → ∃ T fz, w.heap[b]? = some (.cells c T fz)
def Keep (w w' : World) : Prop := ∀ (b : Nat) o, w.heap[b]? = some o → w'.heap[b]? = some o
theorem Keep.refl (w : World) : Keep w w := fun _ _ h => h
structure Base where
 n : Nat
 P : PHeap → Gm → Prop
 loc : ∀ {F γ γ'}, (∀ i, i < n → γ' i = γ i) → P F γ → P F γ'
 up : ∀ {F F' γ γ'}, (∀ b c, F b = some c → F' b = some c) → (∀ (i : Nat) g, γ i = some g → γ' i = some g) → P F γ → P F' γ'
def Base.top : Base := ⟨0, fun _ _ => True, fun _ _ => trivial, fun _ _ _ => trivial⟩
def Glob (F : PHeap) : Prop := ∀ g x, globPV g = some x → RelP F (.pel x) [.pointer (some ⟨g, 0, none⟩)]
theorem Glob.mono {F F' : PHeap} (hF : ∀ b c, F b = some c → F' b = some c) (h : Glob F) : Glob F' := fun g x e => (h g x e).mono hF
structure Cx where
 P : Program
 w0 : World
 F0 : PHeap
 γ0 : List Value
 N : Nat
 B : Base
 R : Nat → Option Obj
 D : List Deferred
def noR : Nat → Option Obj := fun _ => none
structure SLH (C : Cx) (F : PHeap) (γ : Gm) (H : List O) (w : World) : Prop where
 sub : Sub F w
 base : C.B.P F γ
 glob : Glob F
 ext : ∀ b, b < C.w0.heap.size → F b = C.F0 b
 top : ∀ i, H.length ≤ i → γ i = none
 free : ∀ (i : Nat), H[i]? = some .free → γ i = none
 obj : ∀ (i : Nat) o g, H[i]? = some o → γ i = some g → RelO F γ w o g
 apart : ∀ (i : Nat) o g b, H[i]? = some o → o.alive = true → γ i = some g → blk g = some b → F b = none ∧ b < w.heap.size ∧ (C.γ0.length ≤ i → C.w0.heap.size ≤ b)
 given : ∀ i, i < C.γ0.length → γ i = C.γ0[i]?
 dis : ∀ (i j : Nat) o o' g g' b, H[i]? = some o → H[j]? = some o' → i ≠ j → o.alive = true → o'.alive = true → γ i = some g → γ j = some g' → blk g = some b → blk g' ≠ some b
 os : w.os = C.w0.os
 tape : w.tape = C.w0.tape
 output : w.output = C.w0.output
 grows : C.w0.heap.size ≤ w.heap.size
 block : ∀ k, k < C.w0.heap.size → (∀ g ∈ C.γ0, blk g ≠ some k) → w.heap[k]? = C.w0.heap[k]?
 raw : ∀ b o, C.R b = some o → w.heap[b]? = some o ∧ F b = none ∧ ∀ (i : Nat) oo g, H[i]? = some oo → oo.alive = true → γ i = some g → blk g ≠ some b
 live : ∀ (i : Nat) o, H[i]? = some o → o.alive = true → ∃ g, γ i = some g
abbrev Env := List (Nat × Option Bool × D)
def Env.get (t : Nat) : Env → Option (Option Bool × D)
 | [] => none
 | (u, g, d) :: E => bif Nat.beq u t then some (g, d) else Env.get t E
def on : Option Bool → Prop
 | none => True
 | some b => b = true
def SLE (F : PHeap) (γ : Gm) (E : Env) (a : Act) : Prop :=
 ∀ t g d, E.get t = some (g, d) → (on g → ∃ v, a.tmps[t]? = some v ∧ RelV F γ d v) ∧ (¬ on g → a.tmps[t]? = some undef)
structure SL (C : Cx) (E : Env) (H : List O) (a : Act) (w : World) : Prop where
 ex : ∃ F γ, SLH C F γ H w ∧ SLE F γ E a
 size : a.tmps.size = C.N
 defers : a.defers = C.D
theorem RelO.same {F γ w w' o g} (h : RelO F γ w o g) (hh : ∀ b, blk g = some b → w'.heap[b]? = w.heap[b]?) : RelO F γ w' o g := by
 cases h with
 | dead => exact .dead
 | box a b => exact .box ((hh _ rfl).trans a) b
 | arr0 => exact .arr0
 | arr a b c d e => exact .arr ((hh _ rfl).trans a) b c d e
 | map a b c => exact .map ((hh _ rfl).trans a) b c
theorem SLH.same {C F γ H w w'} (h : SLH C F γ H w) (hh : w'.heap = w.heap) (h1 : w'.os = w.os) (h2 : w'.tape = w.tape) (h3 : w'.output = w.output) : SLH C F γ H w' where
 sub := fun b c hb => by rw [hh]; exact h.sub b c hb
 base := h.base
 glob := h.glob
 ext := h.ext
 top := h.top
 free := h.free
 obj := fun i o g ho hg => (h.obj i o g ho hg).same fun b _ => by rw [hh]
 apart := fun i o g b ho ha hg hb => by rw [hh]; exact h.apart i o g b ho ha hg hb
 given := h.given
 dis := h.dis
 os := h1.trans h.os
 tape := h2.trans h.tape
 output := h3.trans h.output
 grows := by rw [hh]; exact h.grows
 block := fun k hk hx => by rw [hh]; exact h.block k hk hx
 raw := fun b o hb => by rw [hh]; exact h.raw b o hb
 live := h.live
end Go.Eng
namespace Go.Eng
/-! ### Views -/
def D.asInt : D → Option (IntKind × Int)
 | .p (.v (.int k n)) => some (k, n)
 | _ => none
def D.asBool : D → Option Bool
 | .p (.v (.bool b)) => some b
 | _ => none
def D.asStr : D → Option (List UInt8)
 | .p (.s l) => some l
 | _ => none
theorem asInt_val {F} {γ : Gm} {d k n v} (h : d.asInt = some (k, n)) (hr : RelV F γ d v) : v = .int k n := by
 unfold D.asInt at h
 split at h
 ·simp only [Option.some.injEq, Prod.mk.injEq] at h
  obtain ⟨rfl, rfl⟩ := h
  cases hr with
  | one _ hr => cases hr with | p hr => cases hr; rfl
  | many hm _ => cases hm
 ·cases h
theorem asBool_val {F} {γ : Gm} {d b v} (h : d.asBool = some b) (hr : RelV F γ d v) : v = .bool b := by
 unfold D.asBool at h
 split at h
 ·simp only [Option.some.injEq] at h
  obtain rfl := h
  cases hr with
  | one _ hr => cases hr with | p hr => cases hr; rfl
  | many hm _ => cases hm
 ·cases h
theorem asStr_val {F} {γ : Gm} {d l v} (h : d.asStr = some l) (hr : RelV F γ d v) : v = .string ⟨l.toArray⟩ := by
 unfold D.asStr at h
 split at h
 ·simp only [Option.some.injEq] at h
  obtain rfl := h
  cases hr with
  | one _ hr => cases hr with | p hr => cases hr; rfl
  | many hm _ => cases hm
 ·cases h
@[reducible] def vint (k : IntKind) (n : Int) : D := .p (.v (.int k n))
@[reducible] def vbool (b : Bool) : D := .p (.v (.bool b))
@[reducible] def vstr (l : List UInt8) : D := .p (.s l)
theorem relV_int {F γ k n} : RelV F γ (vint k n) (.int k n) := .one rfl (.p (.v rfl))
theorem relV_bool {F γ b} : RelV F γ (vbool b) (.bool b) := .one rfl (.p (.v rfl))
theorem relV_str {F γ l} : RelV F γ (vstr l) (.string ⟨l.toArray⟩) := .one rfl (.p .s)
structure VP where
 p : Prop
 b : Option Bool
 ok : b = some true → p
abbrev VP.dec (p : Prop) [Decidable p] : VP := ⟨p, some (decide p), fun h => of_decide_eq_true (Option.some.inj h)⟩
abbrev VP.say (p : Prop) : VP := ⟨p, none, fun h => by cases h⟩
instance (priority := low) vpSay (p : Prop) : CoeDep Prop p VP := ⟨VP.say p⟩
instance vpDec (p : Prop) [Decidable p] : CoeDep Prop p VP := ⟨VP.dec p⟩
def all : List VP → Prop
 | [] => True
 | [v] => v.p
 | v :: l => v.p ∧ all l
theorem all_cons {v : VP} {l} : all (v :: l) ↔ v.p ∧ all l := by
 cases l with
 | nil => simp [all]
 | cons a l => simp [all]
theorem all_append {l m} : all (l ++ m) ↔ all l ∧ all m := by
 induction l with
 | nil => simp [all]
 | cons p l ih => rw [List.cons_append, all_cons, all_cons, ih, and_assoc]
/-! ### Operators -/
def bitsOf (op : BinOp) (k : IntKind) (a b : Int) : Int :=
 match op with
 | .and => k.wrap (BitVec.ofInt k.bits a &&& BitVec.ofInt k.bits b).toNat
 | .or => k.wrap (BitVec.ofInt k.bits a ||| BitVec.ofInt k.bits b).toNat
 | .xor => k.wrap (BitVec.ofInt k.bits a ^^^ BitVec.ofInt k.bits b).toNat
 | _ => k.wrap (BitVec.ofInt k.bits a &&& ~~~ BitVec.ofInt k.bits b).toNat
def evInt (op : BinOp) (k : IntKind) (a b : Int) : List VP × D :=
 match op with
 | .add => ([], vint k (k.wrap (a + b)))
 | .sub => ([], vint k (k.wrap (a - b)))
 | .mul => ([], vint k (k.wrap (a * b)))
 | .quo => ([b ≠ 0], vint k (k.wrap (a.tdiv b)))
 | .rem => ([b ≠ 0], vint k (a.tmod b))
 | .eql => ([], vbool (a == b))
 | .neq => ([], vbool (a != b))
 | .lss => ([], vbool (decide (a < b)))
 | .leq => ([], vbool (decide (a ≤ b)))
 | .gtr => ([], vbool (decide (b < a)))
 | .geq => ([], vbool (decide (b ≤ a)))
 | op => ([], vint k (bitsOf op k a b))
def evShift (op : BinOp) (k : IntKind) (a b : Int) : Option (List VP × D) :=
 match op with
 | .shl => some ([0 ≤ b], vint k (k.wrap (a * 2 ^ min b.toNat k.bits)))
 | .shr => some ([0 ≤ b], vint k (a.fdiv (2 ^ min b.toNat k.bits)))
 | _ => none
def evStr (op : BinOp) (a b : List UInt8) : Option (List VP × D) :=
 match op with
 | .add => some ([((a.length + b.length : Nat) : Int) ≤ 9223372036854775807], vstr (a ++ b))
 | .eql => some ([], vbool (a == b))
 | .neq => some ([], vbool (!(a == b)))
 | .lss => some ([], vbool (Op.bytesLess a b))
 | .leq => some ([], vbool (Op.bytesLess a b || a == b))
 | .gtr => some ([], vbool (!(Op.bytesLess a b || a == b)))
 | .geq => some ([], vbool (!Op.bytesLess a b))
 | _ => none
def evBin (P : Program) (op : BinOp) (T : TypeId) (x y : D) : Option (List VP × D) :=
 match x.asInt, y.asInt with
 | some (k, a), some (k', b) => match evShift op k a b with
  | some r => some r
  | none => if k = k' then some (evInt op k a b) else none
 | _, _ => match x.asStr, y.asStr with
  | some a, some b => evStr op a b
  | _, _ => match x.asBool, y.asBool with
   | some a, some b => match P.underlying T, op with
    | some .bool, .eql => some ([], vbool (a == b))
    | some .bool, .neq => some ([], vbool (!(a == b)))
    | _, _ => none
   | _, _ => none
theorem bytes_toList (l : List UInt8) : (ByteArray.mk l.toArray).toList = l := by
 rw [ByteArray.toList_eq]
theorem bytes_size (l : List UInt8) : (ByteArray.mk l.toArray).size = l.length := rfl
theorem bytes_append (a b : List UInt8) : ByteArray.mk a.toArray ++ ByteArray.mk b.toArray = ByteArray.mk (a ++ b).toArray := by
 apply ByteArray.ext
 simp
section
variable {P : Program} {F : PHeap} {γ : Gm} {w : World}
theorem evInt_sound {op : BinOp} {k : IntKind} {a b : Int} {vc d T} (hs : op ≠ .shl ∧ op ≠ .shr) (h : evInt op k a b = (vc, d)) (hvc : all vc) :
  ∃ v, RelV F γ d v ∧ ∀ w, (binOp op T (.int k a) (.int k b)).run P w = .ok v w := by
 unfold evInt at h
 cases op <;> simp only [Prod.mk.injEq] at h <;> obtain ⟨rfl, rfl⟩ := h <;>
  first
  | (exact absurd rfl hs.1)
  | (exact absurd rfl hs.2)
  | (refine ⟨_, relV_int, fun w => ?_⟩; simp [binOp, Op.intArith]; done)
  | (refine ⟨_, relV_int, fun w => ?_⟩; simp only [all] at hvc; simp [binOp, Op.intDiv, hvc]; done)
  | (refine ⟨_, relV_bool, fun w => ?_⟩; simp [binOp, Op.intCmp]; done)
  | (refine ⟨_, relV_int, fun w => ?_⟩; simp [binOp, Op.intBits, bitsOf]; done)
theorem evShift_sound {op : BinOp} {k k' : IntKind} {a b : Int} {vc d T} (h : evShift op k a b = some (vc, d)) (hvc : all vc) :
  ∃ v, RelV F γ d v ∧ ∀ w, (binOp op T (.int k a) (.int k' b)).run P w = .ok v w := by
 unfold evShift at h
 cases op <;> simp only [Option.some.injEq, Prod.mk.injEq, reduceCtorEq] at h <;> obtain ⟨rfl, rfl⟩ := h <;>
  (refine ⟨_, relV_int, fun w => ?_⟩; simp only [all] at hvc; have hb : ¬ b < 0 := (by omega); simp [binOp, Op.shift, hb])
theorem evStr_sound {op : BinOp} {a b : List UInt8} {vc d T} (h : evStr op a b = some (vc, d)) (hvc : all vc) :
  ∃ v, RelV F γ d v ∧ ∀ w, (binOp op T (.string ⟨a.toArray⟩) (.string ⟨b.toArray⟩)).run P w = .ok v w := by
 unfold evStr at h
 cases op <;> simp only [Option.some.injEq, Prod.mk.injEq, reduceCtorEq] at h <;> obtain ⟨rfl, rfl⟩ := h
 case add =>
  refine ⟨_, relV_str, fun w => ?_⟩
  simp only [all] at hvc
  have hm : ¬ (((ByteArray.mk a.toArray).size + (ByteArray.mk b.toArray).size : Nat) : Int) > IntKind.i64.max := by
   rw [bytes_size, bytes_size]
   have : IntKind.i64.max = 9223372036854775807 := by decide
   omega
  simp only [binOp, Op.stringOp, if_neg hm, bytes_append]
  rfl
 all_goals
  refine ⟨_, relV_bool, fun w => ?_⟩
  simp [binOp, Op.stringOp, bytes_toList]
theorem eqGuard_ok {op : BinOp} {T : TypeId} {vx vy : Value} (h1 : vx ≠ .nilIface) (h2 : ∀ cs, vx ≠ .agg cs) (x y : Operand) (w : World) : (eqGuard op T x y vx vy).run P w = .ok () w := by
 cases op <;> first | rfl | skip
 all_goals
  cases vx <;> first | rfl | exact absurd rfl h1 | exact absurd rfl (h2 _)
theorem run_equal_bool {T : TypeId} (hu : P.underlying T = some .bool) (a b : Bool) (w : World) : (Op.equal T (.bool a) (.bool b)).run P w = .ok (a == b) w := by
 have h : ∀ d, (Op.equalIn (d + 1) T (.bool a) (.bool b)).run P w = .ok (a == b) w := by
  intro d
  simp only [Op.equalIn, Sem.run_bind, run_underlying hu, Result.andThen_ok, Sem.run_pure]
 exact h 9999
theorem evBin_sound {op : BinOp} {T : TypeId} {x y : D} {vx vy vc d} (h : evBin P op T x y = some (vc, d)) (hvc : all vc) (hx : RelV F γ x vx) (hy : RelV F γ y vy) :
  ∃ v, RelV F γ d v ∧ (∀ w, (binOp op T vx vy).run P w = .ok v w) ∧ (∀ (x y : Operand) w, (eqGuard op T x y vx vy).run P w = .ok () w) := by
 unfold evBin at h
 split at h
 ·rename_i k a k' b e1 e2
  have e1 := asInt_val e1 hx
  have e2 := asInt_val e2 hy
  subst e1 e2
  split at h
  ·rename_i r hr
   obtain rfl := Option.some.inj h
   obtain ⟨v, h1, h2⟩ := evShift_sound (P := P) (F := F) (γ := γ) (T := T) (k' := k') hr hvc
   exact ⟨v, h1, h2, fun x y w => eqGuard_ok (by intro e; cases e) (by intro cs e; cases e) x y w⟩
  ·rename_i hn
   split at h
   ·rename_i hk
    subst hk
    have hs : op ≠ .shl ∧ op ≠ .shr := by
     constructor <;> (intro e; subst e; cases hn)
    obtain ⟨v, h1, h2⟩ := evInt_sound (P := P) (F := F) (γ := γ) (T := T) hs (Option.some.inj h) hvc
    exact ⟨v, h1, h2, fun x y w => eqGuard_ok (by intro e; cases e) (by intro cs e; cases e) x y w⟩
   ·cases h
 ·split at h
  ·rename_i a b e1 e2
   have e1 := asStr_val e1 hx
   have e2 := asStr_val e2 hy
   subst e1 e2
   obtain ⟨v, h1, h2⟩ := evStr_sound (P := P) (F := F) (γ := γ) (T := T) h hvc
   exact ⟨v, h1, h2, fun x y w => eqGuard_ok (by intro e; cases e) (by intro cs e; cases e) x y w⟩
  ·split at h
   ·rename_i a b e1 e2
    have e1 := asBool_val e1 hx
    have e2 := asBool_val e2 hy
    subst e1 e2
    split at h
    ·rename_i hu
     simp only [Option.some.injEq, Prod.mk.injEq] at h
     obtain ⟨rfl, rfl⟩ := h
     refine ⟨_, relV_bool, fun w => ?_, fun x y w => eqGuard_ok (by intro e; cases e) (by intro cs e; cases e) x y w⟩
     simp only [binOp, Sem.run_bind, run_equal_bool hu, Result.andThen_ok, Sem.run_pure]
    ·rename_i hu
     simp only [Option.some.injEq, Prod.mk.injEq] at h
     obtain ⟨rfl, rfl⟩ := h
     refine ⟨_, relV_bool, fun w => ?_, fun x y w => eqGuard_ok (by intro e; cases e) (by intro cs e; cases e) x y w⟩
     simp only [binOp, Sem.run_bind, run_equal_bool hu, Result.andThen_ok, Sem.run_pure]
    ·cases h
   ·cases h
/-! ### Places -/
theorem cell_at {w : World} {b off : Nat} {c : Array Value} {T fz} (h : w.heap[b]? = some (.cells c T fz)) {n : Nat} (hn : off + n ≤ c.size) :
  ∀ (j : Nat) v, ((c.toList.drop off).take n)[j]? = some v → w.cell? ((⟨b, off, none⟩ : Addr).add j) = some v := by
 intro j v hj
 rw [List.getElem?_take] at hj
 split at hj
 ·rw [List.getElem?_drop] at hj
  have hadd : (⟨b, off, none⟩ : Addr).add j = ⟨b, off + j, none⟩ := by unfold Addr.add; split <;> simp_all
  rw [hadd]
  simp only [World.cell?, h]
  simpa using hj
 ·cases hj
theorem len_seg {c : Array Value} {off n : Nat} (hn : off + n ≤ c.size) : ((c.toList.drop off).take n).length = n := by
 rw [List.length_take, List.length_drop, Array.length_toList]; omega
def isAggT (P : Program) (t : TypeId) : Bool := match P.underlying t with
 | some (.struct _) => true
 | some (.array _ _) => true
 | _ => false
def sizeT (P : Program) (t : TypeId) : Option Nat := (P.info? t).map (·.size)
theorem run_isAgg {t : TypeId} {d : TypeDesc} (h : P.underlying t = some d) : (isAgg t).run P w = .ok (isAggT P t) w := by
 unfold isAgg isAggT
 simp only [Sem.run_bind, run_underlying h, h, Result.andThen_ok]
 cases d <;> rfl
theorem run_sizeT {t : TypeId} {n : Nat} (h : sizeT P t = some n) : (sizeOf t).run P w = .ok n w := by
 unfold sizeT at h
 cases hi : P.info? t with
 | none => rw [hi] at h; cases h
 | some i =>
  rw [hi] at h
  obtain rfl := Option.some.inj h
  simp [sizeOf, typeInfo, hi]
theorem run_loadVar_seg {w : World} {b off n : Nat} {c : Array Value} {T fz} {t : TypeId} {m : Bool} (h : w.heap[b]? = some (.cells c T fz)) (hn : off + n ≤ c.size)
  (hu : (P.underlying t).isSome = true) (ha : isAggT P t = m) (hs : sizeT P t = some n) (h1 : m = false → n = 1) :
  (loadVar t ⟨b, off, none⟩).run P w = .ok (if m then .agg ((c.toList.drop off).take n).toArray else ((c.toList.drop off).take n).headD undef) w := by
 obtain ⟨d, hd⟩ := Option.isSome_iff_exists.1 hu
 unfold loadVar
 simp only [Sem.run_bind, run_isAgg hd, Result.andThen_ok, ha]
 cases m with
 | true =>
  simp only [if_true, Sem.run_bind, run_sizeT hs, Result.andThen_ok]
  have := run_loadCells_list (P := P) w ⟨b, off, none⟩ ((c.toList.drop off).take n) (cell_at h hn)
  rw [len_seg hn] at this
  simp [this]
 | false =>
  obtain rfl := h1 rfl
  have hl := len_seg (off := off) hn
  obtain ⟨u, hu⟩ : ∃ u, (c.toList.drop off).take 1 = [u] := by
   match hh : (c.toList.drop off).take 1, hl with
   | [u], _ => exact ⟨u, rfl⟩
  have hc := cell_at h hn 0 u (by rw [hu]; rfl)
  simp only [Addr.add, if_true] at hc
  simp only [Bool.false_eq_true, if_false, hu, List.headD_cons]
  rw [run_load, hc]
def D.down : List Step → D → Option (List VP × D)
 | [], d => some ([], d)
 | .fld k o :: r, .p (.agg l) => match l[k]? with
  | some x => if PV.sizes (l.take k) = o then D.down r (.p x) else none
  | none => none
 | .fld k o :: r, .agg l => match l[k]? with
  | some x => if D.sizes (l.take k) = o then D.down r x else none
  | none => none
 | .elt i s :: r, .p (.vec sz n f) => if s = sz then (D.down r (.p (f i))).map (fun q => ((i < n) :: q.1, q.2)) else none
 | .elt i s :: r, .vec sz n f => if s = sz then (D.down r (f i)).map (fun q => ((i < n) :: q.1, q.2)) else none
 | _, _ => none
theorem relP_part {F : PHeap} : ∀ {l : List PV} {cs : List Value} {k : Nat} {x : PV}, RelP F (.agg l) cs → l[k]? = some x → RelP F x ((cs.drop (PV.sizes (l.take k))).take x.size) ∧ PV.sizes (l.take k) + x.size ≤ cs.length
 | [], _, k, x, _, hk => by simp at hk
 | y :: l, cs, k, x, h, hk => by
  cases h with
  | @cons _ _ c1 c2 h1 h2 =>
   have hl := h1.length
   cases k with
   | zero =>
    simp only [List.getElem?_cons_zero, Option.some.injEq] at hk
    subst hk
    simp only [List.take_zero, PV.sizes, List.drop_zero, List.length_append]
    rw [← hl, List.take_left]
    exact ⟨h1, by omega⟩
   | succ k =>
    simp only [List.getElem?_cons_succ] at hk
    obtain ⟨a, b⟩ := relP_part h2 hk
    simp only [List.take_succ_cons, PV.sizes, List.length_append]
    rw [List.drop_append, ← hl, List.drop_eq_nil_of_le (by omega), List.nil_append, Nat.add_sub_cancel_left]
    exact ⟨a, by omega⟩
theorem relD_part {F : PHeap} {γ} : ∀ {l : List D} {cs : List Value} {k : Nat} {x : D}, RelD F γ (.agg l) cs → l[k]? = some x → RelD F γ x ((cs.drop (D.sizes (l.take k))).take x.size) ∧ D.sizes (l.take k) + x.size ≤ cs.length
 | [], _, k, x, _, hk => by simp at hk
 | y :: l, cs, k, x, h, hk => by
  cases h with
  | @cons _ _ c1 c2 h1 h2 =>
   have hl := h1.length
   cases k with
   | zero =>
    simp only [List.getElem?_cons_zero, Option.some.injEq] at hk
    subst hk
    simp only [List.take_zero, D.sizes, List.drop_zero, List.length_append]
    rw [← hl, List.take_left]
    exact ⟨h1, by omega⟩
   | succ k =>
    simp only [List.getElem?_cons_succ] at hk
    obtain ⟨a, b⟩ := relD_part h2 hk
    simp only [List.take_succ_cons, D.sizes, List.length_append]
    rw [List.drop_append, ← hl, List.drop_eq_nil_of_le (by omega), List.nil_append, Nat.add_sub_cancel_left]
    exact ⟨a, by omega⟩
theorem seg_seg {α : Type} (cs : List α) (a n b m : Nat) (h : b + m ≤ n) : (((cs.drop a).take n).drop b).take m = (cs.drop (a + b)).take m := by
 rw [List.drop_take, List.take_take, List.drop_drop, Nat.min_eq_left (by omega)]
theorem down_sound {F : PHeap} {γ} : ∀ {path : List Step} {d d' : D} {vc} {cs : List Value}, RelD F γ d cs → d.down path = some (vc, d') → all vc →
  RelD F γ d' ((cs.drop (offs path)).take d'.size) ∧ offs path + d'.size ≤ cs.length
 | [], d, d', vc, cs, h, hd, _ => by
  simp only [D.down, Option.some.injEq, Prod.mk.injEq] at hd
  obtain ⟨rfl, rfl⟩ := hd
  have := h.length
  simp only [offs, List.drop_zero, ← this, List.take_length]
  exact ⟨h, by omega⟩
 | s :: r, d, d', vc, cs, h, hd, hvc => by
  unfold D.down at hd
  split at hd
  ·rename_i he; cases he
  ·rename_i k o r' l he
   cases he
   split at hd
   ·rename_i x hx
    split at hd
    ·rename_i ho
     cases h with
     | p h =>
      obtain ⟨h1, h2⟩ := relP_part h hx
      rw [ho] at h1 h2
      obtain ⟨g1, g2⟩ := down_sound (.p h1) hd hvc
      have hl : ((cs.drop o).take x.size).length = x.size := by rw [List.length_take, List.length_drop]; omega
      rw [hl] at g2
      rw [seg_seg _ _ _ _ _ g2] at g1
      exact ⟨g1, by simp only [offs, Step.off]; omega⟩
    ·cases hd
   ·cases hd
  ·rename_i k o r' l he
   cases he
   split at hd
   ·rename_i x hx
    split at hd
    ·rename_i ho
     obtain ⟨h1, h2⟩ := relD_part h hx
     rw [ho] at h1 h2
     obtain ⟨g1, g2⟩ := down_sound h1 hd hvc
     have hl : ((cs.drop o).take x.size).length = x.size := by rw [List.length_take, List.length_drop]; omega
     rw [hl] at g2
     rw [seg_seg _ _ _ _ _ g2] at g1
     exact ⟨g1, by simp only [offs, Step.off]; omega⟩
    ·cases hd
   ·cases hd
  ·rename_i i s' r' sz n f he
   cases he
   split at hd
   ·rename_i hs
    subst hs
    cases hq : D.down r (.p (f i)) with
    | none => rw [hq] at hd; cases hd
    | some q =>
     rw [hq] at hd
     simp only [Option.map_some, Option.some.injEq, Prod.mk.injEq] at hd
     obtain ⟨rfl, rfl⟩ := hd
     rw [all_cons] at hvc
     cases h with
     | p h =>
      cases h with
      | vec hl hf =>
       have h1 := hf i hvc.1
       obtain ⟨g1, g2⟩ := down_sound (.p h1) hq hvc.2
       have hb : i * s' + s' ≤ n * s' := by rw [← Nat.succ_mul]; exact Nat.mul_le_mul_right _ hvc.1
       have hl' : ((cs.drop (i * s')).take s').length = s' := by rw [List.length_take, List.length_drop]; omega
       rw [hl'] at g2
       rw [seg_seg _ _ _ _ _ g2] at g1
       exact ⟨g1, by simp only [offs, Step.off]; omega⟩
   ·cases hd
  ·rename_i i s' r' sz n f he
   cases he
   split at hd
   ·rename_i hs
    subst hs
    cases hq : D.down r (f i) with
    | none => rw [hq] at hd; cases hd
    | some q =>
     rw [hq] at hd
     simp only [Option.map_some, Option.some.injEq, Prod.mk.injEq] at hd
     obtain ⟨rfl, rfl⟩ := hd
     rw [all_cons] at hvc
     cases h with
     | vec hl hf =>
      have h1 := hf i hvc.1
      obtain ⟨g1, g2⟩ := down_sound h1 hq hvc.2
      have hb : i * s' + s' ≤ n * s' := by rw [← Nat.succ_mul]; exact Nat.mul_le_mul_right _ hvc.1
      have hl' : ((cs.drop (i * s')).take s').length = s' := by rw [List.length_take, List.length_drop]; omega
      rw [hl'] at g2
      rw [seg_seg _ _ _ _ _ g2] at g1
      exact ⟨g1, by simp only [offs, Step.off]; omega⟩
   ·cases hd
  ·cases hd
end
end Go.Eng
namespace Go.Eng
section
variable {P : Program} {C : Cx} {F : PHeap} {γ : Gm} {H : List O} {w : World}
/-! ### Loads -/
def O.down (path : List Step) : O → Option (List VP × D)
 | .box d => d.down path
 | .arr _ sz n f => match path with
  | .elt i s :: r => if s = sz then ((f i).down r).map (fun q => ((i < n) :: q.1, q.2)) else none
  | _ => none
 | .dead => none
 | .free => none
 | .map _ _ => none
theorem odown_sound {o : O} {g : Value} {path vc d'} (ho : RelO F γ w o g) (h : o.down path = some (vc, d')) (hvc : all vc) {b} (hb : blk g = some b) :
  ∃ c T, w.heap[b]? = some (.cells c T (0, 0)) ∧ offs path + d'.size ≤ c.size ∧ RelD F γ d' ((c.toList.drop (offs path)).take d'.size) := by
 cases ho with
 | dead => cases h
 | map => cases h
 | @box d b' c T h1 h2 =>
  obtain rfl : b' = b := by simpa [blk] using hb
  obtain ⟨g1, g2⟩ := down_sound h2 h hvc
  exact ⟨c, T, h1, by simpa using g2, g1⟩
 | arr0 => cases hb
 | @arr e sz n f b' cap c h1 h2 h3 h4 h5 =>
  obtain rfl : b' = b := by simpa [blk] using hb
  simp only [O.down] at h
  split at h
  ·rename_i i s r
   split at h
   ·rename_i hs
    subst hs
    cases hq : (f i).down r with
    | none => rw [hq] at h; cases h
    | some q =>
     rw [hq] at h
     simp only [Option.map_some, Option.some.injEq, Prod.mk.injEq] at h
     obtain ⟨rfl, rfl⟩ := h
     rw [all_cons] at hvc
     have k1 := h5 i hvc.1
     obtain ⟨g1, g2⟩ := down_sound k1 hq hvc.2
     have hb : i * s + s ≤ c.size := by
      rw [h4]
      have : (i + 1) * s ≤ cap * s := Nat.mul_le_mul_right _ (by omega)
      rw [Nat.succ_mul] at this; exact this
     have hl : ((c.toList.drop (i * s)).take s).length = s := by rw [List.length_take, List.length_drop, Array.length_toList]; omega
     rw [hl] at g2
     rw [seg_seg _ _ _ _ _ g2] at g1
     exact ⟨c, e, h1, by simp only [offs, Step.off]; omega, g1⟩
   ·cases h
  ·cases h
def fitsT (P : Program) (t : TypeId) (m : Bool) (n : Nat) : Bool := (P.underlying t).isSome && (isAggT P t == m) && (sizeT P t == some n)
theorem fitsT_spec {t m n} (h : fitsT P t m n = true) : (P.underlying t).isSome = true ∧ isAggT P t = m ∧ sizeT P t = some n := by
 unfold fitsT at h
 simp only [Bool.and_eq_true, beq_iff_eq] at h
 exact ⟨h.1.1, h.1.2, h.2⟩
theorem single_size {d : D} {cs} (hm : d.many = false) (h : RelD F γ d cs) : d.size = 1 := by
 cases h with
 | p h => cases h <;> first | rfl | cases hm
 | nil => cases hm
 | cons => cases hm
 | vec => cases hm
 | own => rfl
 | ref => rfl
 | part => rfl
 | fn => rfl
theorem single_sizeP {d : PV} {cs} (hm : d.many = false) (h : RelP F d cs) : d.size = 1 := by
 cases h <;> first | rfl | cases hm
def evLoad (P : Program) (H : List O) (t : TypeId) : D → Option (List VP × D)
 | .p (.pel x) => if fitsT P t x.many x.size then some ([], .p x) else none
 | .ref i path => match H[i]? with
  | some o => match o.down path with
   | some (vc, d) => if fitsT P t d.many d.size then some (vc, d) else none
   | none => none
  | none => none
 | _ => none
theorem loadSeg_rel {t : TypeId} {b off : Nat} {c : Array Value} {T fz} {d : D} (hw : w.heap[b]? = some (.cells c T fz)) (hn : off + d.size ≤ c.size) (hf : fitsT P t d.many d.size = true)
  (hd : RelD F γ d ((c.toList.drop off).take d.size)) : ∃ v, RelV F γ d v ∧ (loadVar t ⟨b, off, none⟩).run P w = .ok v w := by
 obtain ⟨h1, h2, h3⟩ := fitsT_spec hf
 have hr := run_loadVar_seg hw hn h1 h2 h3 (fun hm => single_size hm hd)
 refine ⟨_, ?_, hr⟩
 cases hm : d.many with
 | true => exact .many hm hd
 | false =>
  simp only [Bool.false_eq_true, if_false]
  have h1 := single_size hm hd
  refine .one hm ?_
  rw [h1] at hd hn ⊢
  have hl := len_seg (off := off) hn
  match hh : (c.toList.drop off).take 1, hl with
  | [u], _ => rw [hh] at hd; exact hd
theorem evLoad_sound {t : TypeId} {x d : D} {vc vx} (hS : SLH C F γ H w) (h : evLoad P H t x = some (vc, d)) (hvc : all vc) (hx : RelV F γ x vx) :
  ∃ v, RelV F γ d v ∧ ∀ w', Keep w w' → (Instr.loadAt t vx).run P w' = .ok v w' := by
 unfold evLoad at h
 split at h
 ·rename_i y
  split at h
  ·rename_i hf
   simp only [Option.some.injEq, Prod.mk.injEq] at h
   obtain ⟨rfl, rfl⟩ := h
   cases hx with
   | many hm => cases hm
   | one _ hx =>
    cases hx with
    | p hx =>
     cases hx with
     | @pel _ b off c h1 h2 h3 =>
      obtain ⟨T, fz, hb⟩ := hS.sub b c h1
      obtain ⟨v, g1, g2⟩ := loadSeg_rel (P := P) (t := t) (d := .p y) (γ := γ) hb h2 hf (.p h3)
      refine ⟨v, g1, fun w' hw' => ?_⟩
      obtain ⟨h1', h2', h3'⟩ := fitsT_spec hf
      have r1 := run_loadVar_seg (P := P) (t := t) hb h2 h1' h2' h3' (fun hm => single_sizeP hm h3)
      have r2 := run_loadVar_seg (P := P) (t := t) (w := w') (hw' _ _ hb) h2 h1' h2' h3' (fun hm => single_sizeP hm h3)
      rw [g2] at r1
      simp only [Instr.loadAt, Instr.sureAddr, Sem.run_bind, Sem.run_pure, Result.andThen_ok]
      rw [r2]
      injection r1 with r1
      rw [r1]
  ·cases h
 ·rename_i i path
  split at h
  ·rename_i o ho
   split at h
   ·rename_i vc' d' hd
    split at h
    ·rename_i hf
     simp only [Option.some.injEq, Prod.mk.injEq] at h
     obtain ⟨rfl, rfl⟩ := h
     cases hx with
     | many hm => cases hm
     | one _ hx =>
      cases hx with
      | @ref _ _ g b hg hb =>
       obtain ⟨c, T, h1, h2, h3⟩ := odown_sound (hS.obj i o g ho hg) hd hvc hb
       obtain ⟨v, g1, g2⟩ := loadSeg_rel (P := P) (t := t) h1 h2 hf h3
       refine ⟨v, g1, fun w' hw' => ?_⟩
       obtain ⟨h1', h2', h3'⟩ := fitsT_spec hf
       have r1 := run_loadVar_seg (P := P) (t := t) h1 h2 h1' h2' h3' (fun hm => single_size hm h3)
       have r2 := run_loadVar_seg (P := P) (t := t) (w := w') (hw' _ _ h1) h2 h1' h2' h3' (fun hm => single_size hm h3)
       rw [g2] at r1
       simp only [Instr.loadAt, Instr.sureAddr, Sem.run_bind, Sem.run_pure, Result.andThen_ok]
       rw [r2]
       injection r1 with r1
       rw [r1]
    ·cases h
   ·cases h
  ·cases h
 ·cases h
/-! ### Addresses -/
theorem offs_append : ∀ (p : List Step) (s : Step), offs (p ++ [s]) = offs p + s.off
 | [], s => by simp [offs]
 | x :: p, s => by simp only [List.cons_append, offs, offs_append p s]; omega
theorem addr_add (b o n : Nat) : (⟨b, o, none⟩ : Addr).add n = ⟨b, o + n, none⟩ := by unfold Addr.add; split <;> simp_all
def evField (P : Program) (s : TypeId) (k : Nat) (x : D) : Option (List VP × D) :=
 match P.underlying s with
 | some (.struct fields) => match fields[k]? with
  | some fd => match sizeT P fd.type with
   | some (_ + 1) => match x with
    | .p (.pel (.agg l)) => match l[k]? with
     | some y => if PV.sizes (l.take k) = fd.offset then some ([], .p (.pel y)) else none
     | none => none
    | .ref i path => some ([], .ref i (path ++ [.fld k fd.offset]))
    | _ => none
   | _ => none
  | none => none
 | _ => none
theorem evField_sound {s : TypeId} {k : Nat} {x d : D} {vc vx} (h : evField P s k x = some (vc, d)) (hx : RelV F γ x vx) :
  ∃ v, RelV F γ d v ∧ ∀ w, (Instr.fieldAt s vx k).run P w = .ok v w := by
 unfold evField at h
 split at h
 ·rename_i fields hu
  split at h
  ·rename_i fd hfd
   split at h
   ·rename_i n hn
    have hrun : ∀ (b o : Nat) (w : World), (Instr.fieldAt s (.pointer (some ⟨b, o, none⟩)) k).run P w = .ok (.pointer (some ⟨b, o + fd.offset, none⟩)) w := by
     intro b o w
     simp only [Instr.fieldAt, fieldPlace, Instr.sureAddr, Sem.run_bind, run_underlying hu, Result.andThen_ok, hfd, Sem.run_pure, run_sizeT hn, addr_add]
     rw [if_neg (by omega)]
     simp
    split at h
    ·rename_i l
     split at h
     ·rename_i y hy
      split at h
      ·rename_i ho
       simp only [Option.some.injEq, Prod.mk.injEq] at h
       obtain ⟨rfl, rfl⟩ := h
       cases hx with
       | many hm => cases hm
       | one _ hx =>
        cases hx with
        | p hx =>
         cases hx with
         | @pel _ b off c h1 h2 h3 =>
          obtain ⟨g1, g2⟩ := relP_part h3 hy
          rw [ho] at g1 g2
          rw [len_seg h2] at g2
          rw [seg_seg _ _ _ _ _ g2] at g1
          exact ⟨_, .one rfl (.p (.pel h1 (by omega) g1)), fun w => hrun b off w⟩
      ·cases h
     ·cases h
    ·rename_i i path
     simp only [Option.some.injEq, Prod.mk.injEq] at h
     obtain ⟨rfl, rfl⟩ := h
     cases hx with
     | many hm => cases hm
     | one _ hx =>
      cases hx with
      | @ref _ _ g b hg hb =>
       refine ⟨_, .one rfl (.ref hg hb), fun w => ?_⟩
       rw [hrun, offs_append]
       rfl
    ·cases h
   ·cases h
  ·cases h
 ·cases h
def evIndexAddr (P : Program) (H : List O) (t : TypeId) (x ix : D) : Option (List VP × D) :=
 match ix.asInt with
 | some (_, i) => match P.underlying t with
  | some (.slice e) => match sizeT P e with
   | some sz => match x with
    | .p (.lst sz' n f) => if sz' = sz then some ([0 ≤ i, i < (n : Int)], .p (.pel (f i.toNat))) else none
    | .own j => match H[j]? with
     | some (.arr _ sz' n _) => if sz' = sz then some ([0 ≤ i, i < (n : Int)], .ref j [.elt i.toNat sz]) else none
     | _ => none
    | _ => none
   | none => none
  | some (.array len e) => match sizeT P e with
   | some sz => match x with
    | .p (.pel (.vec sz' n f)) => if sz' = sz ∧ n = len then some ([0 ≤ i, i < (len : Int)], .p (.pel (f i.toNat))) else none
    | .ref j path => some ([0 ≤ i, i < (len : Int)], .ref j (path ++ [.elt i.toNat sz]))
    | _ => none
   | none => none
  | _ => none
 | none => none
theorem sz_bound {i n sz : Nat} (h : i < n) : i * sz + sz ≤ n * sz := by rw [← Nat.succ_mul]; exact Nat.mul_le_mul_right _ h
theorem evIndexAddr_sound {t : TypeId} {x ix d : D} {vc vx vi} (hS : SLH C F γ H w) (h : evIndexAddr P H t x ix = some (vc, d)) (hvc : all vc) (hx : RelV F γ x vx) (hi : RelV F γ ix vi) :
  ∃ v, RelV F γ d v ∧ ∀ w, (Instr.indexAt t vx vi).run P w = .ok v w := by
 unfold evIndexAddr at h
 split at h
 ·rename_i k i e1
  have e1 := asInt_val e1 hi
  subst e1
  split at h
  ·rename_i e hu
   split at h
   ·rename_i sz hsz
    split at h
    ·rename_i sz' n f
     split at h
     ·rename_i hs
      subst hs
      simp only [Option.some.injEq, Prod.mk.injEq] at h
      obtain ⟨rfl, rfl⟩ := h
      simp only [all] at hvc
      have hlt : i.toNat < n := by omega
      cases hx with
      | many hm => cases hm
      | one _ hx =>
       cases hx with
       | p hx =>
        cases hx with
        | lst0 => omega
        | @lst _ _ _ b off cap c h1 h2 h3 h4 =>
         have g := h4 i.toNat hlt
         have hb := sz_bound (sz := sz') hlt
         have hl := len_seg (c := c) (off := off + i.toNat * sz') (n := sz') (by omega)
         have hz : (f i.toNat).size = sz' := by rw [← g.length, hl]
         refine ⟨_, .one rfl (.p (.pel (x := f i.toNat) (off := off + i.toNat * sz') h1 (by omega) (by rw [hz]; exact g))), fun w => ?_⟩
         simp only [Instr.indexAt, asIntOf, Sem.run_bind, Sem.run_pure, Result.andThen_ok, run_underlying hu, run_sizeT hsz]
         rw [if_pos (by omega)]
         simp [addr_add, run_sizeT hsz]
     ·cases h
    ·rename_i j
     split at h
     ·rename_i e' sz' n f ho
      split at h
      ·rename_i hs
       subst hs
       simp only [Option.some.injEq, Prod.mk.injEq] at h
       obtain ⟨rfl, rfl⟩ := h
       simp only [all] at hvc
       cases hx with
       | many hm => cases hm
       | one _ hx =>
        cases hx with
        | own hg h1 =>
         have hO := hS.obj j _ _ ho hg
         cases hO with
         | arr0 => omega
         | @arr _ _ _ _ b cap c k1 k2 k3 k4 k5 =>
          refine ⟨_, .one rfl (.ref (b := b) hg rfl), fun w => ?_⟩
          simp only [Instr.indexAt, asIntOf, Sem.run_bind, Sem.run_pure, Result.andThen_ok, run_underlying hu, run_sizeT hsz]
          rw [if_pos (by omega)]
          simp [addr_add, run_sizeT hsz, offs, Step.off]
      ·cases h
     ·cases h
    ·cases h
   ·cases h
  ·rename_i len e hu
   split at h
   ·rename_i sz hsz
    split at h
    ·rename_i sz' n f
     split at h
     ·rename_i hs
      obtain ⟨rfl, rfl⟩ := hs
      simp only [Option.some.injEq, Prod.mk.injEq] at h
      obtain ⟨rfl, rfl⟩ := h
      simp only [all] at hvc
      have hlt : i.toNat < n := by omega
      cases hx with
      | many hm => cases hm
      | one _ hx =>
       cases hx with
       | p hx =>
        cases hx with
        | @pel _ b off c h1 h2 h3 =>
         cases h3 with
         | vec hl hf =>
          have g := hf i.toNat hlt
          have hb := sz_bound (sz := sz') hlt
          simp only [PV.size] at h2 hl g
          rw [seg_seg _ _ _ _ _ hb] at g
          have hz : (f i.toNat).size = sz' := by rw [← g.length, len_seg (by omega)]
          refine ⟨_, .one rfl (.p (.pel (x := f i.toNat) (off := off + i.toNat * sz') h1 (by omega) (by rw [hz]; exact g))), fun w => ?_⟩
          simp only [Instr.indexAt, Instr.sureAddr, asIntOf, Sem.run_bind, Sem.run_pure, Result.andThen_ok, run_underlying hu, run_sizeT hsz]
          rw [if_pos (by omega)]
          simp [addr_add, run_sizeT hsz]
     ·cases h
    ·rename_i j path
     simp only [Option.some.injEq, Prod.mk.injEq] at h
     obtain ⟨rfl, rfl⟩ := h
     simp only [all] at hvc
     cases hx with
     | many hm => cases hm
     | one _ hx =>
      cases hx with
      | @ref _ _ g b hg hb =>
       refine ⟨_, .one rfl (.ref hg hb), fun w => ?_⟩
       simp only [Instr.indexAt, Instr.sureAddr, asIntOf, Sem.run_bind, Sem.run_pure, Result.andThen_ok, run_underlying hu, run_sizeT hsz]
       rw [if_pos (by omega)]
       simp [addr_add, run_sizeT hsz, offs_append, Step.off]
    ·cases h
   ·cases h
  ·cases h
 ·cases h
end
end Go.Eng
namespace Go.Eng
/-! ### A part of a list is replaced -/
def splice {α : Type} (cs : List α) (o : Nat) (cn : List α) : List α := cs.take o ++ cn ++ cs.drop (o + cn.length)
theorem splice_length {α : Type} {cs : List α} {o : Nat} {cn : List α} (h : o + cn.length ≤ cs.length) : (splice cs o cn).length = cs.length := by
 simp only [splice, List.length_append, List.length_take, List.length_drop]; omega
theorem splice_get {α : Type} {cs : List α} {o : Nat} {cn : List α} (h : o + cn.length ≤ cs.length) (j : Nat) :
  (splice cs o cn)[j]? = if o ≤ j ∧ j < o + cn.length then cn[j - o]? else cs[j]? := by
 have hto : (cs.take o).length = o := by rw [List.length_take]; omega
 unfold splice
 rw [List.append_assoc]
 by_cases h1 : j < o
 ·rw [List.getElem?_append_left (by omega), if_neg (by omega), List.getElem?_take, if_pos h1]
 ·rw [List.getElem?_append_right (by omega), hto]
  by_cases h2 : j < o + cn.length
  ·rw [List.getElem?_append_left (by omega), if_pos (by omega)]
  ·rw [List.getElem?_append_right (by omega), List.getElem?_drop, if_neg (by omega)]
   congr 1; omega
theorem splice_splice {α : Type} {cs : List α} {o m o' : Nat} {cn : List α} (hm : o + m ≤ cs.length) (h : o' + cn.length ≤ m) :
  splice cs o (splice ((cs.drop o).take m) o' cn) = splice cs (o + o') cn := by
 have hl : ((cs.drop o).take m).length = m := by rw [List.length_take, List.length_drop]; omega
 have hs := splice_length (cs := (cs.drop o).take m) (o := o') (cn := cn) (by omega)
 apply List.ext_getElem?
 intro j
 have A := splice_get (cs := cs) (o := o) (cn := splice ((cs.drop o).take m) o' cn) (by omega) j
 have B := splice_get (cs := cs) (o := o + o') (cn := cn) (by omega) j
 rw [hs, hl] at A
 rw [A, B]
 by_cases h1 : o ≤ j ∧ j < o + m
 ·rw [if_pos h1, splice_get (by omega)]
  by_cases h2 : o' ≤ j - o ∧ j - o < o' + cn.length
  ·rw [if_pos h2, if_pos (by omega)]; congr 1; omega
  ·rw [if_neg h2, if_neg (by omega), List.getElem?_take, if_pos (by omega), List.getElem?_drop]; congr 1; omega
 ·rw [if_neg h1, if_neg (by omega)]
theorem splice_cons {α : Type} {c1 c2 : List α} {o : Nat} {cn : List α} (h : o + cn.length ≤ c2.length) : splice (c1 ++ c2) (c1.length + o) cn = c1 ++ splice c2 o cn := by
 apply List.ext_getElem?
 intro j
 rw [splice_get (by simp only [List.length_append]; omega)]
 by_cases h1 : j < c1.length
 ·rw [if_neg (by omega), List.getElem?_append_left h1, List.getElem?_append_left h1]
 ·rw [List.getElem?_append_right (l₁ := c1) (l₂ := c2) (by omega), List.getElem?_append_right (l₁ := c1) (l₂ := splice c2 o cn) (by omega), splice_get h]
  by_cases h2 : o ≤ j - c1.length ∧ j - c1.length < o + cn.length
  ·rw [if_pos h2, if_pos (by omega)]; congr 1; omega
  ·rw [if_neg h2, if_neg (by omega)]
theorem splice_head {α : Type} {c1 c2 : List α} {cn : List α} (h : cn.length = c1.length) : splice (c1 ++ c2) 0 cn = cn ++ c2 := by
 unfold splice
 simp [h]
theorem splice_seg_same {α : Type} {cs : List α} {o : Nat} {cn : List α} (h : o + cn.length ≤ cs.length) : ((splice cs o cn).drop o).take cn.length = cn := by
 apply List.ext_getElem?
 intro j
 rw [List.getElem?_take]
 split
 ·rw [List.getElem?_drop, splice_get h, if_pos (by omega)]; congr 1; omega
 ·rw [List.getElem?_eq_none (by omega)]
theorem splice_seg_other {α : Type} {cs : List α} {o : Nat} {cn : List α} (h : o + cn.length ≤ cs.length) {a m : Nat} (hd : a + m ≤ o ∨ o + cn.length ≤ a) : ((splice cs o cn).drop a).take m = (cs.drop a).take m := by
 apply List.ext_getElem?
 intro j
 rw [List.getElem?_take, List.getElem?_take]
 split
 ·rw [List.getElem?_drop, List.getElem?_drop, splice_get h, if_neg (by omega)]
 ·rfl
def upd {α : Type} (f : Nat → α) (i : Nat) (y : α) : Nat → α := fun j => if j = i then y else f j
section
variable {F : PHeap} {γ : Gm}
theorem relP_set : ∀ {l : List PV} {cs : List Value} {k : Nat} {x y : PV} {cy}, RelP F (.agg l) cs → l[k]? = some x → RelP F y cy → y.size = x.size →
  RelP F (.agg (l.set k y)) (splice cs (PV.sizes (l.take k)) cy)
 | [], _, k, x, _, _, _, hk, _, _ => by simp at hk
 | z :: l, cs, k, x, y, cy, h, hk, hy, hs => by
  cases h with
  | @cons _ _ c1 c2 h1 h2 =>
   have hl := h1.length
   cases k with
   | zero =>
    simp only [List.getElem?_cons_zero, Option.some.injEq] at hk
    subst hk
    simp only [List.take_zero, PV.sizes, List.set_cons_zero]
    rw [splice_head (by rw [hy.length, hl, hs])]
    exact .cons hy h2
   | succ k =>
    simp only [List.getElem?_cons_succ] at hk
    have g := relP_part h2 hk
    have ih := relP_set h2 hk hy hs
    simp only [List.take_succ_cons, PV.sizes, List.set_cons_succ]
    rw [← hl, splice_cons (by rw [hy.length, hs]; exact g.2)]
    exact .cons h1 ih
theorem relD_set : ∀ {l : List D} {cs : List Value} {k : Nat} {x y : D} {cy}, RelD F γ (.agg l) cs → l[k]? = some x → RelD F γ y cy → y.size = x.size →
  RelD F γ (.agg (l.set k y)) (splice cs (D.sizes (l.take k)) cy)
 | [], _, k, x, _, _, _, hk, _, _ => by simp at hk
 | z :: l, cs, k, x, y, cy, h, hk, hy, hs => by
  cases h with
  | @cons _ _ c1 c2 h1 h2 =>
   have hl := h1.length
   cases k with
   | zero =>
    simp only [List.getElem?_cons_zero, Option.some.injEq] at hk
    subst hk
    simp only [List.take_zero, D.sizes, List.set_cons_zero]
    rw [splice_head (by rw [hy.length, hl, hs])]
    exact .cons hy h2
   | succ k =>
    simp only [List.getElem?_cons_succ] at hk
    have g := relD_part h2 hk
    have ih := relD_set h2 hk hy hs
    simp only [List.take_succ_cons, D.sizes, List.set_cons_succ]
    rw [← hl, splice_cons (by rw [hy.length, hs]; exact g.2)]
    exact .cons h1 ih
theorem relD_ofP : ∀ {l : List PV} {cs : List Value}, RelP F (.agg l) cs → RelD F γ (.agg (l.map .p)) cs
 | [], _, h => by cases h; exact .nil
 | _ :: _, _, h => by cases h with | cons h1 h2 => exact .cons (.p h1) (relD_ofP h2)
def allP : List D → Option (List PV)
 | [] => some []
 | .p x :: l => match allP l with
  | some m => some (x :: m)
  | none => none
 | _ :: _ => none
theorem allP_spec : ∀ {l : List D} {m : List PV}, allP l = some m → l = m.map .p
 | [], m, h => by simp only [allP, Option.some.injEq] at h; subst h; rfl
 | .p x :: l, m, h => by
  simp only [allP] at h
  split at h
  ·rename_i m' hm
   simp only [Option.some.injEq] at h
   subst h
   rw [allP_spec hm]; rfl
  ·cases h
 | .agg _ :: _, _, h => by cases h
 | .vec _ _ _ :: _, _, h => by cases h
 | .tup _ :: _, _, h => by cases h
 | .own _ :: _, _, h => by cases h
 | .ref _ _ :: _, _, h => by cases h
 | .part _ _ :: _, _, h => by cases h
 | .fn _ _ _ :: _, _, h => by cases h
theorem relP_ofD : ∀ {m : List PV} {cs : List Value}, RelD F γ (.agg (m.map .p)) cs → RelP F (.agg m) cs
 | [], _, h => by cases h; exact .nil
 | _ :: _, _, h => by cases h with | cons h1 h2 => cases h1 with | p h1 => exact .cons h1 (relP_ofD h2)
def mkAgg (l : List D) : D := match allP l with
 | some m => .p (.agg m)
 | none => .agg l
theorem mkAgg_rel {l : List D} {cs} (h : RelD F γ (.agg l) cs) : RelD F γ (mkAgg l) cs := by
 unfold mkAgg
 split
 ·rename_i m hm
  rw [allP_spec hm] at h
  exact .p (relP_ofD h)
 ·exact h
theorem mkAgg_many (l : List D) : (mkAgg l).many = true := by unfold mkAgg; split <;> rfl
def setAgg (l : List PV) (k : Nat) : D → D
 | .p y => .p (.agg (l.set k y))
 | d => .agg ((l.map .p).set k d)
def setVec (sz n : Nat) (f : Nat → PV) (i : Nat) : D → D
 | .p y => .p (.vec sz n (upd f i y))
 | d => .vec sz n (upd (fun j => .p (f j)) i d)
theorem setAgg_rel {l : List PV} {cs k x d cy} (h : RelP F (.agg l) cs) (hk : l[k]? = some x) (hy : RelD F γ d cy) (hs : d.size = x.size) :
  RelD F γ (setAgg l k d) (splice cs (PV.sizes (l.take k)) cy) := by
 have gen : ∀ d : D, RelD F γ d cy → d.size = x.size → RelD F γ (.agg ((l.map .p).set k d)) (splice cs (PV.sizes (l.take k)) cy) := by
  intro d hy hs
  have e : D.sizes ((l.map D.p).take k) = PV.sizes (l.take k) := by
   clear h hk
   induction l generalizing k with
   | nil => simp [D.sizes, PV.sizes]
   | cons a l ih =>
    cases k with
    | zero => rfl
    | succ k => simp only [List.map_cons, List.take_succ_cons, D.sizes, PV.sizes, D.size, ih]
  rw [← e]
  exact relD_set (x := .p x) (relD_ofP h) (by rw [List.getElem?_map, hk]; rfl) hy hs
 cases d with
 | p y => cases hy with | p hy => exact .p (relP_set h hk hy hs)
 | agg _ => exact gen _ hy hs
 | vec _ _ _ => exact gen _ hy hs
 | tup _ => exact gen _ hy hs
 | own _ => exact gen _ hy hs
 | ref _ _ => exact gen _ hy hs
 | part _ _ => exact gen _ hy hs
 | fn _ _ _ => exact gen _ hy hs
theorem relD_vec_upd {sz n : Nat} {f : Nat → D} {cs i d cy} (h : RelD F γ (.vec sz n f) cs) (hi : i < n) (hy : RelD F γ d cy) (hs : d.size = sz) :
  RelD F γ (.vec sz n (upd f i d)) (splice cs (i * sz) cy) := by
 cases h with
 | vec hl hf =>
  have hb := sz_bound (sz := sz) hi
  have hcy : cy.length = sz := by rw [hy.length, hs]
  refine .vec (by rw [splice_length (by omega)]; exact hl) fun j hj => ?_
  unfold upd
  by_cases hji : j = i
  ·subst hji
   rw [if_pos rfl]
   have := splice_seg_same (cs := cs) (o := j * sz) (cn := cy) (by omega)
   rw [hcy] at this
   rw [this]; exact hy
  ·rw [if_neg hji, splice_seg_other (by omega)]
   ·exact hf j hj
   ·rw [hcy]
    rcases Nat.lt_or_gt_of_ne hji with h | h
    ·exact .inl (sz_bound h)
    ·exact .inr (sz_bound h)
theorem relD_vecP {sz n : Nat} {f : Nat → PV} {cs} (h : RelP F (.vec sz n f) cs) : RelD F γ (.vec sz n (fun j => .p (f j))) cs := by
 cases h with
 | vec hl hf => exact .vec hl fun i hi => .p (hf i hi)
theorem setVec_rel {sz n : Nat} {f : Nat → PV} {cs i d cy} (h : RelP F (.vec sz n f) cs) (hi : i < n) (hy : RelD F γ d cy) (hs : d.size = sz) :
  RelD F γ (setVec sz n f i d) (splice cs (i * sz) cy) := by
 have gen := relD_vec_upd (relD_vecP (γ := γ) h) hi hy hs
 cases d with
 | p y =>
  cases gen with
  | vec hl hf =>
   refine .p (.vec hl fun j hj => ?_)
   have := hf j hj
   unfold upd at this ⊢
   split at this <;> (rename_i hji; cases this; (first | rw [if_pos hji] | rw [if_neg hji]); assumption)
 | agg _ => exact gen
 | vec _ _ _ => exact gen
 | tup _ => exact gen
 | own _ => exact gen
 | ref _ _ => exact gen
 | part _ _ => exact gen
 | fn _ _ _ => exact gen
def D.put (new : D) : List Step → D → Option (List VP × D)
 | [], d => if new.size = d.size then some ([], new) else none
 | .fld k o :: r, .p (.agg l) => match l[k]? with
  | some x => if PV.sizes (l.take k) = o then (D.put new r (.p x)).map (fun q => (q.1, setAgg l k q.2)) else none
  | none => none
 | .fld k o :: r, .agg l => match l[k]? with
  | some x => if D.sizes (l.take k) = o then (D.put new r x).map (fun q => (q.1, mkAgg (l.set k q.2))) else none
  | none => none
 | .elt i s :: r, .p (.vec sz n f) => if s = sz then (D.put new r (.p (f i))).map (fun q => ((i < n) :: q.1, setVec sz n f i q.2)) else none
 | .elt i s :: r, .vec sz n f => if s = sz then (D.put new r (f i)).map (fun q => ((i < n) :: q.1, .vec sz n (upd f i q.2))) else none
 | _, _ => none
theorem put_sound {new : D} {cn} (hn : RelD F γ new cn) : ∀ {path : List Step} {d d' : D} {vc cs}, RelD F γ d cs → D.put new path d = some (vc, d') → all vc →
  RelD F γ d' (splice cs (offs path) cn) ∧ offs path + cn.length ≤ cs.length
 | [], d, d', vc, cs, h, hd, _ => by
  simp only [D.put] at hd
  split at hd
  ·rename_i hs
   simp only [Option.some.injEq, Prod.mk.injEq] at hd
   obtain ⟨_, rfl⟩ := hd
   have e1 := hn.length
   have e2 := h.length
   have := splice_head (c1 := cs) (c2 := []) (cn := cn) (by omega)
   simp only [List.append_nil] at this
   simp only [offs, this]
   exact ⟨hn, by omega⟩
  ·cases hd
 | s :: r, d, d', vc, cs, h, hd, hvc => by
  have sizes_eq : ∀ {d' : D} {c c' : List Value}, RelD F γ d' c → c.length = c'.length → d'.size = c'.length := fun h e => by rw [← h.length, e]
  unfold D.put at hd
  split at hd
  ·rename_i he; cases he
  ·rename_i k o r' l he
   cases he
   split at hd
   ·rename_i x hx
    split at hd
    ·rename_i ho
     cases hq : D.put new r (.p x) with
     | none => rw [hq] at hd; cases hd
     | some q =>
      rw [hq] at hd
      simp only [Option.map_some, Option.some.injEq, Prod.mk.injEq] at hd
      obtain ⟨rfl, rfl⟩ := hd
      cases h with
      | p h =>
       obtain ⟨h1, h2⟩ := relP_part h hx
       have hl : ((cs.drop (PV.sizes (l.take k))).take x.size).length = x.size := by rw [List.length_take, List.length_drop]; omega
       obtain ⟨g1, g2⟩ := put_sound hn (.p h1) hq hvc
       rw [hl] at g2
       have g3 := setAgg_rel h hx g1 (by rw [← g1.length, splice_length (by omega), hl])
       rw [splice_splice h2 g2] at g3
       rw [ho] at g3 h2
       exact ⟨g3, by simp only [offs, Step.off]; omega⟩
    ·cases hd
   ·cases hd
  ·rename_i k o r' l he
   cases he
   split at hd
   ·rename_i x hx
    split at hd
    ·rename_i ho
     cases hq : D.put new r x with
     | none => rw [hq] at hd; cases hd
     | some q =>
      rw [hq] at hd
      simp only [Option.map_some, Option.some.injEq, Prod.mk.injEq] at hd
      obtain ⟨rfl, rfl⟩ := hd
      obtain ⟨h1, h2⟩ := relD_part h hx
      have hl : ((cs.drop (D.sizes (l.take k))).take x.size).length = x.size := by rw [List.length_take, List.length_drop]; omega
      obtain ⟨g1, g2⟩ := put_sound hn h1 hq hvc
      rw [hl] at g2
      have g3 := relD_set h hx g1 (by rw [← g1.length, splice_length (by omega), hl])
      rw [splice_splice h2 g2] at g3
      rw [ho] at g3 h2
      exact ⟨mkAgg_rel g3, by simp only [offs, Step.off]; omega⟩
    ·cases hd
   ·cases hd
  ·rename_i i s' r' sz n f he
   cases he
   split at hd
   ·rename_i hs
    subst hs
    cases hq : D.put new r (.p (f i)) with
    | none => rw [hq] at hd; cases hd
    | some q =>
     rw [hq] at hd
     simp only [Option.map_some, Option.some.injEq, Prod.mk.injEq] at hd
     obtain ⟨rfl, rfl⟩ := hd
     rw [all_cons] at hvc
     cases h with
     | p h =>
      have h0 := h
      cases h with
      | vec hl0 hf =>
       have h1 := hf i hvc.1
       have hb := sz_bound (sz := s') hvc.1
       have hl : ((cs.drop (i * s')).take s').length = s' := by rw [List.length_take, List.length_drop]; omega
       obtain ⟨g1, g2⟩ := put_sound hn (.p h1) hq hvc.2
       rw [hl] at g2
       have g3 := setVec_rel h0 hvc.1 g1 (by rw [← g1.length, splice_length (by omega), hl])
       rw [splice_splice (by omega) g2] at g3
       exact ⟨g3, by simp only [offs, Step.off]; omega⟩
   ·cases hd
  ·rename_i i s' r' sz n f he
   cases he
   split at hd
   ·rename_i hs
    subst hs
    cases hq : D.put new r (f i) with
    | none => rw [hq] at hd; cases hd
    | some q =>
     rw [hq] at hd
     simp only [Option.map_some, Option.some.injEq, Prod.mk.injEq] at hd
     obtain ⟨rfl, rfl⟩ := hd
     rw [all_cons] at hvc
     have h0 := h
     cases h with
     | vec hl0 hf =>
      have h1 := hf i hvc.1
      have hb := sz_bound (sz := s') hvc.1
      have hl : ((cs.drop (i * s')).take s').length = s' := by rw [List.length_take, List.length_drop]; omega
      obtain ⟨g1, g2⟩ := put_sound hn h1 hq hvc.2
      rw [hl] at g2
      have g3 := relD_vec_upd h0 hvc.1 g1 (by rw [← g1.length, splice_length (by omega), hl])
      rw [splice_splice (by omega) g2] at g3
      exact ⟨g3, by simp only [offs, Step.off]; omega⟩
   ·cases hd
  ·cases hd
end
end Go.Eng
namespace Go.Eng
/-! ### Zero values -/
def sameV : Value → Value → Bool
 | .bool a, .bool b => a == b
 | .int k a, .int k' b => decide (k = k') && a == b
 | .string a, .string b => a.data.toList == b.data.toList
 | .pointer none, .pointer none => true
 | .slice none n c, .slice none n' c' => n == n' && c == c'
 | .map none, .map none => true
 | .nilFunc, .nilFunc => true
 | .nilIface, .nilIface => true
 | _, _ => false
theorem sameV_eq {a b : Value} (h : sameV a b = true) : a = b := by
 unfold sameV at h
 split at h <;> simp_all
 rename_i a b
 cases a; cases b
 simp_all
def sameL : List Value → List Value → Bool
 | [], [] => true
 | a :: l, b :: m => sameV a b && sameL l m
 | _, _ => false
theorem sameL_eq : ∀ {l m : List Value}, sameL l m = true → l = m
 | [], [], _ => rfl
 | a :: l, b :: m, h => by
  simp only [sameL, Bool.and_eq_true] at h
  rw [sameV_eq h.1, sameL_eq h.2]
 | [], _ :: _, h => by cases h
 | _ :: _, [], h => by cases h
mutual
def PV.lits : PV → Option (List Value)
 | .v x => if x.oneCell' then some [x] else none
 | .s l => some [.string ⟨l.toArray⟩]
 | .agg l => PV.litss l
 | .vec sz n f => (List.range n).foldr (fun i acc => match PV.lits (f i), acc with
   | some a, some b => if a.length = sz then some (a ++ b) else none
   | _, _ => none) (some [])
 | .lst _ _ _ => none
 | .pel _ => none
def PV.litss : List PV → Option (List Value)
 | [] => some []
 | p :: l => match p.lits, PV.litss l with
  | some a, some b => some (a ++ b)
  | _, _ => none
end
section
variable {P : Program} {F : PHeap} {γ : Gm} {w : World}
theorem lits_vec {sz : Nat} {f : Nat → PV} (ih : ∀ i cs, (f i).lits = some cs → RelP F (f i) cs) : ∀ (n k : Nat) (cs : List Value),
  ((List.range' k n).foldr (fun i acc => match PV.lits (f i), acc with
   | some a, some b => if a.length = sz then some (a ++ b) else none
   | _, _ => none) (some [])) = some cs → cs.length = n * sz ∧ ∀ i, i < n → RelP F (f (k + i)) ((cs.drop (i * sz)).take sz)
 | 0, k, cs, h => by
  simp only [List.range'_zero, List.foldr_nil, Option.some.injEq] at h
  subst h
  exact ⟨by simp, fun i hi => by omega⟩
 | n + 1, k, cs, h => by
  rw [List.range'_succ, List.foldr_cons] at h
  split at h
  ·rename_i a b ha hb
   split at h
   ·rename_i hs
    simp only [Option.some.injEq] at h
    subst h
    obtain ⟨h1, h2⟩ := lits_vec ih n (k + 1) b hb
    refine ⟨by rw [List.length_append, hs, h1, Nat.succ_mul]; omega, fun i hi => ?_⟩
    cases i with
    | zero => simp only [Nat.zero_mul, List.drop_zero, Nat.add_zero]; rw [← hs, List.take_left]; exact ih _ _ ha
    | succ i =>
     have := h2 i (by omega)
     have e : (i + 1) * sz = a.length + i * sz := by rw [hs, Nat.succ_mul]; omega
     rw [e, List.drop_append, List.drop_eq_nil_of_le (by omega), List.nil_append, Nat.add_sub_cancel_left, show k + (i + 1) = k + 1 + i from by omega]
     exact this
   ·cases h
  ·cases h
mutual
theorem lits_rel : ∀ {p : PV} {cs}, p.lits = some cs → RelP F p cs
 | .v x, cs, h => by
  simp only [PV.lits] at h
  split at h
  ·rename_i h1; simp only [Option.some.injEq] at h; subst h; exact .v h1
  ·cases h
 | .s l, cs, h => by simp only [PV.lits, Option.some.injEq] at h; subst h; exact .s
 | .agg l, cs, h => litss_rel (by simpa only [PV.lits] using h)
 | .vec sz n f, cs, h => by
  simp only [PV.lits] at h
  rw [List.range_eq_range'] at h
  obtain ⟨h1, h2⟩ := lits_vec (F := F) (fun i cs hi => lits_rel hi) n 0 cs h
  exact .vec h1 fun i hi => by have := h2 i hi; rwa [Nat.zero_add] at this
 | .lst _ _ _, _, h => by simp [PV.lits] at h
 | .pel _, _, h => by simp [PV.lits] at h
theorem litss_rel : ∀ {l : List PV} {cs}, PV.litss l = some cs → RelP F (.agg l) cs
 | [], cs, h => by simp only [PV.litss, Option.some.injEq] at h; subst h; exact .nil
 | p :: l, cs, h => by
  simp only [PV.litss] at h
  split at h
  ·rename_i a b ha hb
   simp only [Option.some.injEq] at h
   subst h
   exact .cons (lits_rel ha) (litss_rel hb)
  ·cases h
end
def zeroPV (P : Program) : Nat → TypeId → Option PV
 | 0, _ => none
 | n + 1, t => match P.underlying t with
  | some (.struct fs) => (fs.toList.foldr (fun f acc => match zeroPV P n f.type, acc with
    | some z, some l => some (z :: l)
    | _, _ => none) (some [])).map .agg
  | some (.array len e) => (zeroPV P n e).map fun z => .vec z.size len fun _ => z
  | some .string => some (.s [])
  | some _ => match (P.info? t).bind (·.zero) with
   | some z => some (.v z)
   | none => none
  | none => none
def isAggV : Value → Bool
 | .agg _ => true
 | _ => false
def zeroT (P : Program) (t : TypeId) : Option PV :=
 match zeroPV P 12 t, (P.info? t).bind (·.zero) with
 | some z, some v => match z.lits with
  | some cs => if sameL cs v.cells.toList && (isAggV v == z.many) then some z else none
  | none => none
 | _, _ => none
theorem zeroT_sound {t : TypeId} {z : PV} (h : zeroT P t = some z) : ∃ v, (P.info? t).bind (·.zero) = some v ∧ RelP F z v.cells.toList ∧ isAggV v = z.many := by
 unfold zeroT at h
 split at h
 ·rename_i z' v hz hv
  split at h
  ·rename_i cs hcs
   split at h
   ·rename_i hc
    simp only [Option.some.injEq] at h
    subst h
    simp only [Bool.and_eq_true, beq_iff_eq] at hc
    exact ⟨v, hv, by rw [← sameL_eq hc.1]; exact lits_rel hcs, hc.2⟩
   ·cases h
  ·cases h
 ·cases h
theorem run_zero {t : TypeId} {v} (h : (P.info? t).bind (·.zero) = some v) (w : World) : (zeroValue t).run P w = .ok v w := by
 cases hi : P.info? t with
 | none => rw [hi] at h; cases h
 | some i =>
  rw [hi] at h
  simp only [Option.bind_some] at h
  simp [zeroValue, typeInfo, hi, h]
def D.isTup : D → Bool
 | .tup _ => true
 | _ => false
theorem relV_to_cells {d : D} {v : Value} (h : RelV F γ d v) (ht : d.isTup = false) : RelD F γ d v.cells.toList ∧ isAggV v = d.many := by
 cases h with
 | one hm h =>
  have h1 := h.one v (by simp)
  cases v with
  | agg cs => cases h1
  | tuple cs => cases h1
  | _ => exact ⟨h, hm.symm⟩
 | many hm h => exact ⟨by simpa [Value.cells] using h, hm.symm⟩
 | tup => cases ht
/-! ### Struct and array literals -/
theorem fold_splice (off : Nat) (v : Array Value) (cells : Array Value) (h : off + v.size ≤ cells.size) :
  (v.zipIdx.foldl (fun cs (x : Value × Nat) => cs.setIfInBounds (off + x.2) x.1) cells).toList = splice cells.toList off v.toList := by
 have e : v.zipIdx.foldl (fun cs (x : Value × Nat) => cs.setIfInBounds (off + x.2) x.1) cells = (v.toList.zipIdx 0).foldl (fun cs (x : Value × Nat) => cs.setIfInBounds (off + x.2) x.1) cells := by
  rw [← Array.foldl_toList, Array.toList_zipIdx]
 rw [e]
 obtain ⟨h1, h2⟩ := Great.foldl_set off v.toList 0 cells
 apply List.ext_getElem?
 intro j
 rw [splice_get (by simpa using h), Array.getElem?_toList, h2 j]
 simp only [Nat.add_zero, Array.length_toList]
 by_cases hj : off ≤ j ∧ j < off + v.size
 ·rw [if_pos (by omega), if_pos hj]
 ·rw [if_neg (by omega), if_neg hj, Array.getElem?_toList]
def layAgg : List D → List (Nat × Nat × Nat × D) → Option (List D)
 | l, [] => some l
 | l, (k, off, size, d) :: r => match l[k]? with
  | some x => if D.sizes (l.take k) = off ∧ d.size = size ∧ x.size = size then layAgg (l.set k d) r else none
  | none => none
theorem layAgg_sound {places : Nat → Option (Nat × Nat)} : ∀ {parts : List (Nat × Nat × Nat × D)} {vs : List (Nat × Value)} {l l' : List D} {cells : Array Value},
  RelD F γ (.agg l) cells.toList → layAgg l parts = some l' → parts.length = vs.length →
  (∀ (i : Nat) k off size d, parts[i]? = some (k, off, size, d) → ∃ v, vs[i]? = some (k, v) ∧ places k = some (off, size) ∧ RelD F γ d v.cells.toList) →
  ∃ cells', Instr.fill places cells vs = some cells' ∧ RelD F γ (.agg l') cells'.toList
 | [], [], l, l', cells, h, hl, _, _ => by
  simp only [layAgg, Option.some.injEq] at hl
  subst hl
  exact ⟨cells, rfl, h⟩
 | [], _ :: _, _, _, _, _, _, hlen, _ => by simp at hlen
 | _ :: _, [], _, _, _, _, _, hlen, _ => by simp at hlen
 | (k, off, size, d) :: r, (k', v) :: vs, l, l', cells, h, hl, hlen, hp => by
  simp only [layAgg] at hl
  split at hl
  ·rename_i x hx
   split at hl
   ·rename_i hc
    obtain ⟨c1, c2, c3⟩ := hc
    obtain ⟨v', e1, e2, e3⟩ := hp 0 k off size d rfl
    simp only [List.getElem?_cons_zero, Option.some.injEq, Prod.mk.injEq] at e1
    obtain ⟨rfl, rfl⟩ := e1
    obtain ⟨g1, g2⟩ := relD_part h hx
    have hv : v.cells.size = size := by have := e3.length; simpa [c2] using this
    have g3 := relD_set h hx e3 (by omega)
    rw [c1] at g2 g3
    simp only [Array.length_toList] at g2
    rw [← fold_splice off v.cells cells (by omega)] at g3
    obtain ⟨cells', f1, f2⟩ := layAgg_sound (vs := vs) g3 hl (by simpa using hlen) (fun i k off size d hi => by
     obtain ⟨v', q1, q2⟩ := hp (i + 1) k off size d (by simpa using hi)
     exact ⟨v', by simpa using q1, q2⟩)
    refine ⟨cells', ?_, f2⟩
    unfold Instr.fill
    simp only [e2]
    rw [if_neg (by simp; omega)]
    exact f1
   ·cases hl
  ·cases hl
end
end Go.Eng
namespace Go.Eng
def evParts (ev : Operand → Option D) : List (Nat × Operand) → Option (List (Nat × D))
 | [] => some []
 | (k, x) :: r => match ev x, evParts ev r with
  | some d, some l => if d.isTup then none else some ((k, d) :: l)
  | _, _ => none
def withPlaces (places : Nat → Option (Nat × Nat)) : List (Nat × D) → Option (List (Nat × Nat × Nat × D))
 | [] => some []
 | (k, d) :: r => match places k, withPlaces places r with
  | some (o, s), some l => some ((k, o, s, d) :: l)
  | _, _ => none
def layVec (sz : Nat) : D → List (Nat × D) → Option (List VP × D)
 | a, [] => some ([], a)
 | a, (i, d) :: r => if d.size = sz then match D.put d [.elt i sz] a with
   | some (vc, a') => (layVec sz a' r).map fun q => (vc ++ q.1, q.2)
   | none => none
  else none
def structPlaces (P : Program) (fields : Array Field) : Option (List (Nat × Nat)) := fields.toList.mapM (fun f => (P.info? f.type).map fun i => (f.offset, i.size))
def evBuild (P : Program) (t : TypeId) (parts : List (Nat × D)) : Option (List VP × D) :=
 match P.underlying t, zeroT P t with
 | some (.struct fields), some (.agg l) => match structPlaces P fields with
  | some places => match withPlaces (places.toArray[·]?) parts with
   | some ps => (layAgg (l.map .p) ps).map fun l' => ([], mkAgg l')
   | none => none
  | none => none
 | some (.array _ e), some (.vec sz n f) => match sizeT P e with
  | some s => if s = sz then match layVec sz (.p (.vec sz n f)) parts with
    | some (vc, d) => if d.many then some (vc, d) else none
    | none => none
   else none
  | none => none
 | _, _ => none
section
variable {P : Program} {C : Cx} {F : PHeap} {γ : Gm} {H : List O} {w : World}
theorem evParts_spec {ev : Operand → Option D} {ρ : Operand → Value} : ∀ {l : List (Nat × Operand)} {ps}, (∀ kx ∈ l, ∀ d, ev kx.2 = some d → RelV F γ d (ρ kx.2)) → evParts ev l = some ps →
  ps.length = l.length ∧ ∀ (i : Nat) k d, ps[i]? = some (k, d) → ∃ x, l[i]? = some (k, x) ∧ RelD F γ d (ρ x).cells.toList
 | [], ps, _, h => by simp only [evParts, Option.some.injEq] at h; subst h; exact ⟨rfl, fun i k d hi => by simp at hi⟩
 | (k, x) :: r, ps, hev, h => by
  simp only [evParts] at h
  split at h
  ·rename_i d l hd hl
   split at h
   ·cases h
   ·rename_i ht
    simp only [Option.some.injEq] at h
    subst h
    obtain ⟨h1, h2⟩ := evParts_spec (fun kx hk => hev kx (List.mem_cons_of_mem _ hk)) hl
    refine ⟨by simp [h1], fun i k' d' hi => ?_⟩
    cases i with
    | zero =>
     simp only [List.getElem?_cons_zero, Option.some.injEq, Prod.mk.injEq] at hi
     obtain ⟨rfl, rfl⟩ := hi
     refine ⟨x, rfl, (relV_to_cells (hev _ List.mem_cons_self _ hd) ?_).1⟩
     simpa using ht
    | succ i => exact h2 i k' d' (by simpa using hi)
  ·cases h
theorem withPlaces_spec {places : Nat → Option (Nat × Nat)} : ∀ {l : List (Nat × D)} {ps}, withPlaces places l = some ps →
  ps.length = l.length ∧ ∀ (i : Nat) k o s d, ps[i]? = some (k, o, s, d) → l[i]? = some (k, d) ∧ places k = some (o, s)
 | [], ps, h => by simp only [withPlaces, Option.some.injEq] at h; subst h; exact ⟨rfl, fun i k o s d hi => by simp at hi⟩
 | (k, x) :: r, ps, h => by
  simp only [withPlaces] at h
  split at h
  ·rename_i o s l hp hl
   simp only [Option.some.injEq] at h
   subst h
   obtain ⟨h1, h2⟩ := withPlaces_spec hl
   refine ⟨by simp [h1], fun i k' o' s' d' hi => ?_⟩
   cases i with
   | zero =>
    simp only [List.getElem?_cons_zero, Option.some.injEq, Prod.mk.injEq] at hi
    obtain ⟨rfl, rfl, rfl, rfl⟩ := hi
    exact ⟨rfl, hp⟩
   | succ i => exact h2 i k' o' s' d' (by simpa using hi)
  ·cases h
theorem layVec_sound {sz : Nat} : ∀ {parts : List (Nat × D)} {vs : List (Nat × Value)} {a a' : D} {vc} {cells : Array Value},
  RelD F γ a cells.toList → layVec sz a parts = some (vc, a') → all vc → parts.length = vs.length →
  (∀ (i : Nat) k d, parts[i]? = some (k, d) → ∃ v, vs[i]? = some (k, v) ∧ RelD F γ d v.cells.toList) →
  ∃ cells', Instr.fill (fun i => some (i * sz, sz)) cells vs = some cells' ∧ RelD F γ a' cells'.toList
 | [], [], a, a', vc, cells, h, hl, _, _, _ => by
  simp only [layVec, Option.some.injEq, Prod.mk.injEq] at hl
  obtain ⟨_, rfl⟩ := hl
  exact ⟨cells, rfl, h⟩
 | [], _ :: _, _, _, _, _, _, _, _, hlen, _ => by simp at hlen
 | _ :: _, [], _, _, _, _, _, _, _, hlen, _ => by simp at hlen
 | (k, d) :: r, (k', v) :: vs, a, a', vc, cells, h, hl, hvc, hlen, hp => by
  simp only [layVec] at hl
  split at hl
  ·rename_i hsz
   split at hl
   ·rename_i vc1 a1 h1
    cases hq : layVec sz a1 r with
    | none => rw [hq] at hl; cases hl
    | some q =>
     rw [hq] at hl
     simp only [Option.map_some, Option.some.injEq, Prod.mk.injEq] at hl
     obtain ⟨rfl, rfl⟩ := hl
     rw [all_append] at hvc
     obtain ⟨v', e1, e3⟩ := hp 0 k d rfl
     simp only [List.getElem?_cons_zero, Option.some.injEq, Prod.mk.injEq] at e1
     obtain ⟨rfl, rfl⟩ := e1
     have hv : v.cells.size = sz := by have := e3.length; simpa [hsz] using this
     obtain ⟨g1, g2⟩ := put_sound e3 h h1 hvc.1
     simp only [offs, Step.off, Nat.add_zero, Array.length_toList] at g1 g2
     rw [← fold_splice (k' * sz) v.cells cells g2] at g1
     obtain ⟨cells', f1, f2⟩ := layVec_sound (vs := vs) g1 hq hvc.2 (by simpa using hlen) (fun i k d hi => by
      obtain ⟨v', q1, q2⟩ := hp (i + 1) k d (by simpa using hi)
      exact ⟨v', by simpa using q1, q2⟩)
     refine ⟨cells', ?_, f2⟩
     unfold Instr.fill
     simp only
     rw [if_neg (by simp; omega)]
     exact f1
   ·cases hl
  ·cases hl
theorem evBuild_sound {t : TypeId} {parts : Array (Nat × Operand)} {ev : Operand → Option D} {ρ : Operand → Value} {ps vc d} (hev : ∀ kx ∈ parts.toList, ∀ d, ev kx.2 = some d → RelV F γ d (ρ kx.2))
  (hp : evParts ev parts.toList = some ps) (h : evBuild P t ps = some (vc, d)) (hvc : all vc) :
  ∃ v, RelV F γ d v ∧ ∀ w, (Instr.build t (parts.map fun (i, x) => (i, ρ x))).run P w = .ok v w := by
 obtain ⟨hl, hps⟩ := evParts_spec hev hp
 have hvs : (parts.map fun (i, x) => (i, ρ x)).toList = parts.toList.map fun (i, x) => (i, ρ x) := by simp
 unfold evBuild at h
 split at h
 ·rename_i fields l hu hz
  split at h
  ·rename_i places hpl
   split at h
   ·rename_i qs hqs
    obtain ⟨hl2, hqs⟩ := withPlaces_spec hqs
    cases hq : layAgg (l.map .p) qs with
    | none => rw [hq] at h; cases h
    | some l' =>
     rw [hq] at h
     simp only [Option.map_some, Option.some.injEq, Prod.mk.injEq] at h
     obtain ⟨rfl, rfl⟩ := h
     obtain ⟨z, z1, z2, z3⟩ := zeroT_sound (F := F) hz
     obtain ⟨cells', f1, f2⟩ := layAgg_sound (places := (places.toArray[·]?)) (cells := z.cells) (vs := (parts.map fun (i, x) => (i, ρ x)).toList) (relD_ofP (γ := γ) z2) hq (by rw [hl2, hl, hvs]; simp) (fun i k off size d hi => by
      obtain ⟨a1, a2⟩ := hqs i k off size d hi
      obtain ⟨x, b1, b2⟩ := hps i k d a1
      exact ⟨ρ x, by rw [hvs, List.getElem?_map, b1]; rfl, a2, b2⟩)
     refine ⟨.agg cells', ?_, fun w => run_build w t _ cells' ?_⟩
     ·have := RelV.many (mkAgg_many l') (mkAgg_rel f2)
      simpa using this
     ·unfold Program.built
      cases hi : P.info? t with
      | none => rw [hi] at z1; cases z1
      | some it =>
       rw [hi] at z1
       simp only [Option.bind_some] at z1
       simp only [hu, z1]
       unfold structPlaces at hpl
       simp only [hpl]
       exact f1
   ·cases h
  ·cases h
 ·rename_i n0 e sz n f hu hz
  split at h
  ·rename_i s hs
   split at h
   ·rename_i hss
    subst hss
    split at h
    ·rename_i vc' d' hq
     split at h
     ·rename_i hm
      simp only [Option.some.injEq, Prod.mk.injEq] at h
      obtain ⟨rfl, rfl⟩ := h
      obtain ⟨z, z1, z2, z3⟩ := zeroT_sound (F := F) hz
      obtain ⟨cells', f1, f2⟩ := layVec_sound (cells := z.cells) (vs := (parts.map fun (i, x) => (i, ρ x)).toList) (.p (γ := γ) z2) hq hvc (by rw [hl, hvs]; simp) (fun i k d hi => by
       obtain ⟨x, b1, b2⟩ := hps i k d hi
       exact ⟨ρ x, by rw [hvs, List.getElem?_map, b1]; rfl, b2⟩)
      refine ⟨.agg cells', ?_, fun w => run_build w t _ cells' ?_⟩
      ·have := RelV.many hm f2
       simpa using this
      ·unfold Program.built
       cases hi : P.info? t with
       | none => rw [hi] at z1; cases z1
       | some it =>
        rw [hi] at z1
        simp only [Option.bind_some] at z1
        unfold sizeT at hs
        cases hie : P.info? e with
        | none => rw [hie] at hs; cases hs
        | some ie =>
         rw [hie] at hs
         simp only [Option.map_some, Option.some.injEq] at hs
         simp only [hu, z1, hie, hs]
         exact f1
     ·cases h
    ·cases h
   ·cases h
  ·cases h
 ·cases h
/-! ### Values: fields, elements -/
theorem extract_seg (cs : List Value) (o n : Nat) : cs.toArray.extract o (o + n) = ((cs.drop o).take n).toArray := by
 simp [List.extract_eq_take_drop]
theorem run_part {t : TypeId} {d : D} {cs : List Value} {o : Nat} (hn : o + d.size ≤ cs.length) (hf : fitsT P t d.many d.size = true) (hd : RelD F γ d ((cs.drop o).take d.size)) :
  ∃ v, RelV F γ d v ∧ ∀ w, (part t cs.toArray o).run P w = .ok v w := by
 obtain ⟨h1, h2, h3⟩ := fitsT_spec hf
 obtain ⟨td, htd⟩ := Option.isSome_iff_exists.1 h1
 cases hm : d.many with
 | true =>
  refine ⟨_, .many hm hd, fun w => ?_⟩
  simp only [part, Sem.run_bind, run_isAgg htd, Result.andThen_ok, h2, hm, if_true, run_sizeT h3, Sem.run_pure, extract_seg]
 | false =>
  have hs := single_size hm hd
  rw [hs] at hd hn
  have hl : ((cs.drop o).take 1).length = 1 := by rw [List.length_take, List.length_drop]; omega
  match hh : (cs.drop o).take 1, hl with
  | [u], _ =>
   rw [hh] at hd
   have hu : cs[o]? = some u := by
    have := congrArg (·[0]?) hh
    simpa [List.getElem?_take, List.getElem?_drop] using this
   refine ⟨u, .one hm hd, fun w => ?_⟩
   simp only [part, Sem.run_bind, run_isAgg htd, Result.andThen_ok, h2, hm, Bool.false_eq_true, if_false, List.getElem?_toArray, hu, Sem.run_pure]
def aggParts : D → Option (List D)
 | .p (.agg l) => some (l.map .p)
 | .agg l => some l
 | _ => none
def evFieldV (P : Program) (t : TypeId) (k : Nat) (x : D) : Option (List VP × D) :=
 match P.underlying t, aggParts x with
 | some (.struct fields), some l => match fields[k]?, l[k]? with
  | some fd, some d => if D.sizes (l.take k) = fd.offset ∧ fitsT P fd.type d.many d.size = true then some ([], d) else none
  | _, _ => none
 | _, _ => none
theorem aggParts_rel {x : D} {l : List D} {v} (h : aggParts x = some l) (hx : RelV F γ x v) : ∃ cs : List Value, v = .agg cs.toArray ∧ RelD F γ (.agg l) cs := by
 unfold aggParts at h
 split at h
 ·simp only [Option.some.injEq] at h
  subst h
  cases hx with
  | one hm => cases hm
  | many _ hx => cases hx with | p hx => exact ⟨_, rfl, relD_ofP hx⟩
 ·simp only [Option.some.injEq] at h
  subst h
  cases hx with
  | one hm => cases hm
  | many _ hx => exact ⟨_, rfl, hx⟩
 ·cases h
theorem evFieldV_sound {t : TypeId} {k : Nat} {x d : D} {vc vx} (h : evFieldV P t k x = some (vc, d)) (hx : RelV F γ x vx) :
  ∃ v, RelV F γ d v ∧ ∀ w, (Instr.field t vx k).run P w = .ok v w := by
 unfold evFieldV at h
 split at h
 ·rename_i fields l hu hl
  split at h
  ·rename_i fd d' hfd hd
   split at h
   ·rename_i hc
    simp only [Option.some.injEq, Prod.mk.injEq] at h
    obtain ⟨rfl, rfl⟩ := h
    obtain ⟨cs, rfl, hcs⟩ := aggParts_rel hl hx
    obtain ⟨g1, g2⟩ := relD_part hcs hd
    rw [hc.1] at g1 g2
    obtain ⟨v, e1, e2⟩ := run_part (P := P) g2 hc.2 g1
    refine ⟨v, e1, fun w => ?_⟩
    simp only [Instr.field, Sem.run_bind, run_underlying hu, Result.andThen_ok, hfd, asAgg, Sem.run_pure, e2]
   ·cases h
  ·cases h
 ·cases h
def evIndexV (P : Program) (t : TypeId) (x ix : D) : Option (List VP × D) :=
 match ix.asInt with
 | some (_, i) => match P.underlying t with
  | some .string => match x.asStr with
   | some l => some ([0 ≤ i, i < (l.length : Int)], vint .u8 ((l.getD i.toNat 0).toNat : Int))
   | none => none
  | some (.array len e) => match sizeT P e, x with
   | some sz, .p (.vec sz' n f) => if sz' = sz ∧ n = len ∧ fitsT P e (f i.toNat).many sz = true then some ([0 ≤ i, i < (len : Int)], .p (f i.toNat)) else none
   | _, _ => none
  | _ => none
 | none => none
theorem evIndexV_sound {t : TypeId} {x ix d : D} {vc vx vi} (h : evIndexV P t x ix = some (vc, d)) (hvc : all vc) (hx : RelV F γ x vx) (hi : RelV F γ ix vi) :
  ∃ v, RelV F γ d v ∧ ∀ w, (Instr.index t vx vi).run P w = .ok v w := by
 unfold evIndexV at h
 split at h
 ·rename_i k i e1
  have e1 := asInt_val e1 hi
  subst e1
  split at h
  ·rename_i hu
   split at h
   ·rename_i l e2
    have e2 := asStr_val e2 hx
    subst e2
    simp only [Option.some.injEq, Prod.mk.injEq] at h
    obtain ⟨rfl, rfl⟩ := h
    simp only [all] at hvc
    have hlt : i.toNat < l.length := by omega
    refine ⟨_, relV_int, fun w => ?_⟩
    simp only [Instr.index, asIntOf, Sem.run_bind, Sem.run_pure, Result.andThen_ok, run_underlying hu]
    have e : (if 0 ≤ i then (ByteArray.mk l.toArray)[i.toNat]? else none) = some (l.getD i.toNat 0) := by
     rw [if_pos hvc.1]
     have : i.toNat < (ByteArray.mk l.toArray).size := by rw [bytes_size]; exact hlt
     rw [getElem?_pos (ByteArray.mk l.toArray) i.toNat this]
     congr 1
     show l.toArray[i.toNat] = _
     simp [List.getD, List.getElem?_eq_getElem hlt]
    rw [e]
    simp
   ·cases h
  ·rename_i len e hu
   split at h
   ·rename_i sz sz' n f hsz
    split at h
    ·rename_i hc
     obtain ⟨rfl, rfl, hc⟩ := hc
     simp only [Option.some.injEq, Prod.mk.injEq] at h
     obtain ⟨rfl, rfl⟩ := h
     simp only [all] at hvc
     have hlt : i.toNat < n := by omega
     cases hx with
     | one hm => cases hm
     | @many _ cs _ hx =>
      cases hx with
      | p hx =>
       cases hx with
       | vec hl hf =>
        have g := hf i.toNat hlt
        have hb := sz_bound (sz := sz') hlt
        have hz : (f i.toNat).size = sz' := by rw [← g.length, List.length_take, List.length_drop]; omega
        obtain ⟨v, e1, e2⟩ := run_part (P := P) (F := F) (γ := γ) (cs := cs) (d := .p (f i.toNat)) (t := e) (o := i.toNat * sz') (by simp only [D.size, hz]; omega) (by simp only [D.size, D.many, hz]; exact hc) (.p (by simp only [D.size, hz]; exact g))
        refine ⟨v, e1, fun w => ?_⟩
        simp only [Instr.index, asIntOf, Sem.run_bind, Sem.run_pure, Result.andThen_ok, run_underlying hu]
        rw [if_pos (by omega)]
        simp only [Sem.run_bind, run_sizeT hsz, Result.andThen_ok, e2]
    ·cases h
   ·cases h
  ·cases h
 ·cases h
/-! ### len, min, max, slices of slices and strings, conversions -/
def evLen (P : Program) (H : List O) (t : TypeId) (x : D) : Option (List VP × D) :=
 match P.underlying t with
 | some .string => match x.asStr with
  | some l => some ([], vint .i64 (l.length : Int))
  | none => none
 | some (.slice _) => match x with
  | .p (.lst _ n _) => some ([], vint .i64 (n : Int))
  | .p (.v (.slice _ n _)) => some ([], vint .i64 (n : Int))
  | .own j => match H[j]? with
   | some (.arr _ _ n _) => some ([], vint .i64 (n : Int))
   | _ => none
  | _ => none
 | some (.array n _) => some ([], vint .i64 (n : Int))
 | _ => none
theorem lst_val {sz n : Nat} {f : Nat → PV} {v} (h : RelV F γ (.p (.lst sz n f)) v) : ∃ a cap, v = .slice a n cap ∧ (n = 0 ∨ n ≤ cap) := by
 cases h with
 | many hm => cases hm
 | one _ h =>
  cases h with
  | p h => cases h with
   | lst0 => exact ⟨_, _, rfl, .inl rfl⟩
   | lst _ h2 => exact ⟨_, _, rfl, .inr h2⟩
theorem v_val {x : Value} {v} (h : RelV F γ (.p (.v x)) v) : v = x := by
 cases h with
 | many hm => cases hm
 | one _ h => cases h with | p h => cases h; rfl
theorem own_val {j : Nat} {v} (h : RelV F γ (.own j) v) : γ j = some v := by
 cases h with
 | many hm => cases hm
 | one _ h => cases h; assumption
theorem arr_val {e sz n : Nat} {f : Nat → D} {g} (h : RelO F γ w (.arr e sz n f) g) : ∃ a cap, g = .slice a n cap := by
 cases h with
 | arr0 => exact ⟨_, _, rfl⟩
 | arr => exact ⟨_, _, rfl⟩
theorem evLen_sound {t ty : TypeId} {x d : D} {vc vx} (hS : SLH C F γ H w) (h : evLen P H t x = some (vc, d)) (hx : RelV F γ x vx) :
  ∃ v, RelV F γ d v ∧ ∀ w, (Builtin.len_ #[t] ty #[vx]).run P w = .ok v w := by
 unfold evLen at h
 split at h
 ·rename_i hu
  split at h
  ·rename_i l e
   have e := asStr_val e hx
   subst e
   simp only [Option.some.injEq, Prod.mk.injEq] at h
   obtain ⟨rfl, rfl⟩ := h
   exact ⟨_, relV_int, fun w => by simp [Builtin.len_, run_underlying hu, goInt, bytes_size]⟩
  ·cases h
 ·rename_i e hu
  have key : ∀ a n cap (w : World), (Builtin.len_ #[t] ty #[.slice a n cap]).run P w = .ok (.int .i64 (n : Int)) w := by
   intro a n cap w
   simp [Builtin.len_, run_underlying hu, goInt]
  split at h
  ·simp only [Option.some.injEq, Prod.mk.injEq] at h
   obtain ⟨rfl, rfl⟩ := h
   obtain ⟨a, cap, rfl, _⟩ := lst_val hx
   exact ⟨_, relV_int, fun w => key _ _ _ w⟩
  ·simp only [Option.some.injEq, Prod.mk.injEq] at h
   obtain ⟨rfl, rfl⟩ := h
   rw [v_val hx]
   exact ⟨_, relV_int, fun w => key _ _ _ w⟩
  ·rename_i j
   split at h
   ·rename_i e' sz n f ho
    simp only [Option.some.injEq, Prod.mk.injEq] at h
    obtain ⟨rfl, rfl⟩ := h
    obtain ⟨a, cap, rfl⟩ := arr_val (hS.obj j _ _ ho (own_val hx))
    exact ⟨_, relV_int, fun w => key _ _ _ w⟩
   ·cases h
  ·cases h
 ·rename_i n e hu
  simp only [Option.some.injEq, Prod.mk.injEq] at h
  obtain ⟨rfl, rfl⟩ := h
  exact ⟨_, relV_int, fun w => by simp [Builtin.len_, run_underlying hu, goInt]⟩
 ·cases h
def bound (dflt : Int) : Option D → Option Int
 | none => some dflt
 | some d => match d.asInt with
  | some (_, i) => some i
  | none => none
def evSlice (P : Program) (t : TypeId) (x : D) (lo hi : Option D) : Option (List VP × D) :=
 match P.underlying t with
 | some .string => match x.asStr with
  | some l => match bound 0 lo, bound (l.length : Int) hi with
   | some a, some b => some ([0 ≤ a, a ≤ b, b ≤ (l.length : Int)], vstr ((l.drop a.toNat).take (b.toNat - a.toNat)))
   | _, _ => none
  | none => none
 | some (.slice e) => match x, sizeT P e with
  | .p (.lst sz n f), some sz' => if sz = sz' then match bound 0 lo, bound (n : Int) hi with
    | some a, some b => some ([0 ≤ a, a ≤ b, b ≤ (n : Int)], .p (.lst sz (b.toNat - a.toNat) (fun j => f (a.toNat + j))))
    | _, _ => none
   else none
  | _, _ => none
 | _ => none
def evSliceO (P : Program) (H : List O) (t : TypeId) (i : Nat) (hi : D) : Option (List VP × D) :=
 match P.underlying t, H[i]?, hi.asInt with
 | some (.slice e), some (.arr _ _ n _), some (_, b) => match sizeT P e with
  | some _ => some ([0 ≤ b, b ≤ (n : Int)], .part i b.toNat)
  | none => none
 | _, _, _ => none
theorem run_sliceBounds {b : Bool} {len cap : Nat} {lo hi : Option Value} {a c : Int} (hlo : (lo = none ∧ a = 0) ∨ ∃ k, lo = some (.int k a)) (hhi : (hi = none ∧ c = len) ∨ ∃ k, hi = some (.int k c))
  (h0 : 0 ≤ a) (h1 : a ≤ c) (h2 : c ≤ cap) (w : World) : (Instr.sliceBounds b len cap lo hi none).run P w = .ok (a.toNat, c.toNat, cap) w := by
 have hb : ∀ (k : IntKind) (x : Int) (y : Nat) code, 0 ≤ x → x ≤ y → (Instr.sliceBound (.int k x) y code).run P w = .ok x.toNat w := by
  intro k x y code hx hy
  simp [Instr.sliceBound, asIntOf, hx, hy]
 have hcc : ((c.toNat : Nat) : Int) = c := by omega
 rcases hlo with ⟨rfl, rfl⟩ | ⟨k, rfl⟩ <;> rcases hhi with ⟨rfl, rfl⟩ | ⟨k', rfl⟩
 ·simp [Instr.sliceBounds]
 ·simp [Instr.sliceBounds, hb k' c cap _ (by omega) h2]
 ·simp [Instr.sliceBounds, hb k a len _ h0 h1]
 ·simp [Instr.sliceBounds, hb k' c cap _ (by omega) h2, hb k a c.toNat _ h0 (by omega)]
theorem bound_spec {dflt : Int} {x : Option D} {vx : Option Value} {i : Int} (h : bound dflt x = some i) (hx : (x = none ∧ vx = none) ∨ ∃ d v, x = some d ∧ vx = some v ∧ RelV F γ d v) :
  (vx = none ∧ i = dflt) ∨ ∃ k, vx = some (.int k i) := by
 rcases hx with ⟨rfl, rfl⟩ | ⟨d, v, rfl, rfl, hv⟩
 ·simp only [bound, Option.some.injEq] at h; exact .inl ⟨rfl, h.symm⟩
 ·simp only [bound] at h
  split at h
  ·rename_i k j e
   simp only [Option.some.injEq] at h
   subst h
   exact .inr ⟨k, by rw [asInt_val e hv]⟩
  ·cases h
theorem evSlice_sound {t : TypeId} {x d : D} {lo hi : Option D} {vlo vhi : Option Value} {vc vx} (h : evSlice P t x lo hi = some (vc, d)) (hvc : all vc) (hx : RelV F γ x vx)
  (hlo : (lo = none ∧ vlo = none) ∨ ∃ d v, lo = some d ∧ vlo = some v ∧ RelV F γ d v) (hhi : (hi = none ∧ vhi = none) ∨ ∃ d v, hi = some d ∧ vhi = some v ∧ RelV F γ d v) :
  ∃ v, RelV F γ d v ∧ ∀ w, (Instr.sliceAt t vx vlo vhi none).run P w = .ok v w := by
 unfold evSlice at h
 split at h
 ·rename_i hu
  split at h
  ·rename_i l e
   have e := asStr_val e hx
   subst e
   split at h
   ·rename_i a b ha hb
    simp only [Option.some.injEq, Prod.mk.injEq] at h
    obtain ⟨rfl, rfl⟩ := h
    simp only [all] at hvc
    refine ⟨_, relV_str, fun w => ?_⟩
    simp only [Instr.sliceAt, Instr.slice, Sem.run_bind, run_underlying hu, Result.andThen_ok, Option.isSome_none, Bool.false_eq_true, if_false, Sem.run_pure]
    rw [run_sliceBounds (a := a) (c := b) (bound_spec ha hlo) (by have := bound_spec hb hhi; rwa [← bytes_size] at this) hvc.1 hvc.2.1 (by rw [bytes_size]; exact hvc.2.2)]
    simp only [Result.andThen_ok]
    rw [Lib.extract_eq]
   ·cases h
  ·cases h
 ·rename_i e hu
  split at h
  ·rename_i sz n f sz' hsz
   split at h
   ·rename_i hs
    subst hs
    split at h
    ·rename_i a b ha hb
     simp only [Option.some.injEq, Prod.mk.injEq] at h
     obtain ⟨rfl, rfl⟩ := h
     simp only [all] at hvc
     obtain ⟨h0, h1, h2⟩ := hvc
     have hx' := hx
     obtain ⟨ad, cap, rfl, hcap⟩ := lst_val hx
     have run : (n = 0 ∨ n ≤ cap) → (b : Int) ≤ cap → ∀ w : World, (Instr.sliceAt t (.slice ad n cap) vlo vhi none).run P w =
       .ok (.slice (if cap = a.toNat then ad else ad.map (·.add (a.toNat * sz))) (b.toNat - a.toNat) (cap - a.toNat)) w := by
      intro _ hbc w
      simp only [Instr.sliceAt, Instr.slice, Sem.run_bind, run_underlying hu, Result.andThen_ok]
      rw [run_sliceBounds (a := a) (c := b) (bound_spec ha hlo) (bound_spec hb hhi) h0 h1 hbc]
      simp only [Result.andThen_ok, Sem.run_bind, run_sizeT hsz, Sem.run_pure]
     by_cases hz : b.toNat - a.toNat = 0
     ·have hbc : (b : Int) ≤ cap := by rcases hcap with h | h <;> omega
      refine ⟨_, ?_, run hcap hbc⟩
      rw [hz]
      exact .one rfl (.p .lst0)
     ·cases hx' with
      | one _ hx' =>
       cases hx' with
       | p hx' =>
        cases hx' with
        | lst0 => omega
        | @lst _ _ _ bl off _ c k1 k2 k3 k4 =>
         refine ⟨_, ?_, run hcap (by omega)⟩
         rw [if_neg (by omega)]
         simp only [Option.map_some, addr_add]
         have hbd : a.toNat * sz + (b.toNat - a.toNat) * sz ≤ n * sz := by rw [← Nat.add_mul]; exact Nat.mul_le_mul_right _ (by omega)
         refine .one rfl (.p (.lst k1 (by omega) (by omega) fun i hi => ?_))
         have := k4 (a.toNat + i) (by omega)
         rwa [Nat.add_mul, ← Nat.add_assoc] at this
    ·cases h
   ·cases h
  ·cases h
 ·cases h
theorem evSliceO_sound {C : Cx} {H : List O} {w : World} {t : TypeId} {i : Nat} {x d : D} {vx vhi : Value} {vc} (hS : SLH C F γ H w) (h : evSliceO P H t i x = some (vc, d)) (hvc : all vc) (hx : RelV F γ (.own i) vx) (hhi : RelV F γ x vhi) :
  ∃ v, RelV F γ d v ∧ ∀ w, (Instr.sliceAt t vx none (some vhi) none).run P w = .ok v w := by
 unfold evSliceO at h
 split at h
 ·rename_i e e0 sz n f k b hu ho hb
  split at h
  ·rename_i sz' hsz
   simp only [Option.some.injEq, Prod.mk.injEq] at h
   obtain ⟨rfl, rfl⟩ := h
   simp only [all] at hvc
   obtain ⟨h0, h1⟩ := hvc
   have hg := own_val hx
   have hr := hS.obj i _ _ ho hg
   have hbv := asInt_val hb hhi
   subst hbv
   have key : ∀ ad cap, n ≤ cap → vx = .slice ad n cap → (∀ p, ad = some p → p.add (0 * sz') = p) → ∃ v, RelV F γ (.part i b.toNat) v ∧ ∀ w, (Instr.sliceAt t vx none (some (.int k b)) none).run P w = .ok v w := by
    intro ad cap hc hv had
    subst hv
    refine ⟨.slice ad b.toNat cap, .one rfl (.part hg), fun w => ?_⟩
    simp only [Instr.sliceAt, Instr.slice, Sem.run_bind, run_underlying hu, Result.andThen_ok]
    rw [run_sliceBounds (a := 0) (c := b) (.inl ⟨rfl, rfl⟩) (.inr ⟨k, rfl⟩) (by omega) h0 (by omega)]
    simp only [Result.andThen_ok, Sem.run_bind, run_sizeT hsz, Sem.run_pure, Int.toNat_zero, Nat.sub_zero]
    congr 2
    split
    ·rfl
    ·cases ad with
     | none => rfl
     | some p => rw [Option.map_some, had p rfl]
   cases hr with
   | arr0 => exact key none 0 (Nat.le_refl _) rfl (fun p e => by cases e)
   | arr k1 k2 k3 k4 k5 => exact key _ _ k2 rfl (fun p e => by cases e; rw [Nat.zero_mul]; exact addr_add _ _ _)
  ·cases h
 ·cases h
end
end Go.Eng
namespace Go.Eng
def kdOf (P : Program) (t : TypeId) : Option KD := match P.underlying t with
 | some (.int k) => some (.one k)
 | some (.array n e) => match P.underlying e, sizeT P e with
  | some (.int k), some 1 => some (.arr n k)
  | _, _ => none
 | _ => none
section
variable {P : Program} {w : World}
theorem kd_cases {t : TypeId} {kd : KD} (h : kdOf P t = some kd) : (∃ k, kd = .one k ∧ P.underlying t = some (.int k)) ∨ (∃ n e k i, kd = .arr n k ∧ P.underlying t = some (.array n e) ∧ P.underlying e = some (.int k) ∧ P.info? e = some i ∧ P.cellsOf e = 1) := by
 unfold kdOf at h
 split at h
 ·rename_i k hk
  cases h
  exact .inl ⟨_, rfl, hk⟩
 ·rename_i n e hk
  split at h
  ·rename_i k he hs
   cases h
   unfold sizeT at hs
   cases hi : P.info? e with
   | none => rw [hi] at hs; cases hs
   | some i =>
    rw [hi] at hs
    simp only [Option.map_some, Option.some.injEq] at hs
    exact .inr ⟨_, _, _, i, rfl, hk, he, hi, by simp [Program.cellsOf, hi, hs]⟩
  ·cases h
 ·cases h
theorem plain_int {e : TypeId} {k : IntKind} (he : P.underlying e = some (.int k)) : P.plainKey e = true := by simp [Program.plainKey, he]
theorem part_int {e : TypeId} {k : IntKind} (he : P.underlying e = some (.int k)) {ks : List Int} {i : Nat} (hi : i < ks.length) (w : World) :
  (part e (ks.map fun a => Value.int k a).toArray i).run P w = .ok (.int k ks[i]) w :=
 run_part_plain w (plain_int he) (by simp [hi])
theorem run_checkKey_kd {t : TypeId} {kd : KD} (h : kdOf P t = some kd) {ks : List Int} (hl : ks.length = kd.len) (em : Bool) (w : World) : (Instr.checkKey em 10000 t (kd.val ks)).run P w = .ok () w := by
 rcases kd_cases h with ⟨k, rfl, hu⟩ | ⟨n, e, k, i, rfl, hu, he, hi, hc⟩
 ·rw [show (10000 : Nat) = 9999 + 1 from rfl, Instr.checkKey]
  simp only [Sem.run_bind, run_underlying hu, Result.andThen_ok, KD.val]
  rfl
 ·rw [show (10000 : Nat) = 9998 + 1 + 1 from rfl, Instr.checkKey]
  simp only [Sem.run_bind, run_underlying hu, Result.andThen_ok, KD.val]
  simp only [Std.Legacy.Range.forIn_eq_forIn_range', Std.Legacy.Range.size, Nat.sub_zero, Nat.add_one_sub_one, Nat.div_one]
  have hn : ∀ j ∈ List.range' 0 n, j < ks.length := fun j hj => by
   simp only [KD.len] at hl
   have := List.mem_range'_1.1 hj
   omega
  generalize List.range' 0 n = is at hn
  induction is with
  | nil => simp
  | cons j is ih =>
   have h1 := part_int he (hn j (by simp)) w
   have hs : i.size = 1 := by simpa [Program.cellsOf, hi] using hc
   have h2 : (Instr.checkKey em (9998 + 1) e (.int k (ks[j]'(hn j (by simp))))).run P w = .ok () w := by
    rw [Instr.checkKey]
    simp only [Sem.run_bind, run_underlying he, Result.andThen_ok]
    rfl
   simp only [List.forIn_cons, Sem.run_bind, run_sizeOf w hi, Result.andThen_ok, hc, hs, Nat.mul_one, h1, h2, Sem.run_pure]
   exact ih (fun y hy => hn y (by simp [hy]))
theorem run_equal_kd {t : TypeId} {n : Nat} {k : IntKind} (h : kdOf P t = some (.arr n k)) {ks ls : List Int} (h1 : ks.length = n) (h2 : ls.length = n) (w : World) :
  (Op.equal t ((KD.arr n k).val ks) ((KD.arr n k).val ls)).run P w = .ok (decide (ks = ls)) w := by
 rcases kd_cases h with ⟨k', hk, hu⟩ | ⟨n', e, k', i, hk, hu, he, hi, hc⟩
 ·cases hk
 ·cases hk
  show (Op.equalIn (9999 + 1) t _ _).run P w = _
  simp only [KD.val]
  rw [run_equalIn_array w 9999 _ _ hu hi, hc]
  have key : ∀ (m j : Nat), j + m = n → (Op.eqItems 9999 e 1 (ks.map fun a => Value.int k a).toArray (ls.map fun a => Value.int k a).toArray (List.range' j m)).run P w = .ok (decide (ks.drop j = ls.drop j)) w := by
   intro m
   induction m with
   | zero =>
    intro j hj
    rw [List.drop_of_length_le (by omega), List.drop_of_length_le (by omega)]
    simp [Op.eqItems]
   | succ m ih =>
    intro j hj
    rw [List.range'_succ]
    have hj1 : j < ks.length := by omega
    have hj2 : j < ls.length := by omega
    simp only [Op.eqItems, Sem.run_bind, Nat.mul_one, part_int he hj1 w, part_int he hj2 w, Result.andThen_ok, run_equalIn_int w 9998 e k k _ _ he]
    have hd : (ks.drop j = ls.drop j) ↔ (ks[j] = ls[j] ∧ ks.drop (j + 1) = ls.drop (j + 1)) := by
     rw [List.drop_eq_getElem_cons hj1, List.drop_eq_getElem_cons hj2, List.cons.injEq]
    by_cases hx : ks[j] = ls[j]
    ·rw [show (ks[j] == ls[j]) = true by simp [hx]]
     simp only [Bool.not_true, Bool.false_eq_true, if_false]
     rw [ih (j + 1) (by omega)]
     simp only [hd, hx, true_and]
    ·rw [show (ks[j] == ls[j]) = false by simp [hx]]
     simp only [hd, hx, false_and, decide_false]
     rfl
  have := key n 0 (by omega)
  rw [List.drop_zero, List.drop_zero] at this
  rw [List.range_eq_range']
  exact this
theorem run_findKey_kd {t : TypeId} {kd : KD} (h : kdOf P t = some kd) {ks : List Int} (hl : ks.length = kd.len) {es : List MapEntry} {L : Ents} (hE : EntsOf kd es L) (w : World) :
  (Instr.findKey t (kd.val ks) es).run P w = .ok (findE ks L 0) w := by
 obtain ⟨hE, hL⟩ := hE
 rcases kd_cases h with ⟨k, rfl, hu⟩ | ⟨n, e, k, i, rfl, hu, he, hi, hc⟩
 ·have key : ∀ (es : List MapEntry) (L : Ents) (i : Nat), es.map (fun e => (e.key, e.val)) = L.map (fun x => ((KD.one k).val x.1, x.2)) → (∀ x ∈ L, x.1.length = 1) → Instr.findNow (.int k) ((KD.one k).val ks) es i = some (findE ks L i) := by
   intro es
   induction es with
   | nil =>
    intro L i hE hL
    cases L with
    | nil => rfl
    | cons x L => simp at hE
   | cons e es ih =>
    intro L i hE hL
    cases L with
    | nil => simp at hE
    | cons x L =>
     simp only [List.map_cons, List.cons.injEq, Prod.mk.injEq] at hE
     obtain ⟨⟨e1, e2⟩, e3⟩ := hE
     obtain ⟨y, z⟩ := x
     have hy := hL (y, z) (by simp)
     simp only at e1 e2 hy
     simp only [Instr.findNow, e1, KD.val, Instr.sameNow, if_true, findE]
     simp only [KD.len] at hl
     match ks, hl, y, hy with
     | [a], _, [b], _ =>
      simp only [List.headD_cons]
      by_cases hab : a = b
      ·subst hab; simp [e2]
      ·rw [show (a == b) = false by simp [hab]]
       simp only [List.cons.injEq, and_true, if_neg hab]
       exact ih L (i + 1) e3 (fun x hx => hL x (by simp [hx]))
  unfold Instr.findKey
  simp only [Sem.run_bind, run_underlying hu, Result.andThen_ok]
  rw [key es L 0 hE hL]
  rfl
 ·have key : ∀ (es : List MapEntry) (L : Ents) (i : Nat), es.map (fun e => (e.key, e.val)) = L.map (fun x => ((KD.arr n k).val x.1, x.2)) → (∀ x ∈ L, x.1.length = n) → (Instr.findAsking t ((KD.arr n k).val ks) es i).run P w = .ok (findE ks L i) w := by
   intro es
   induction es with
   | nil =>
    intro L i hE hL
    cases L with
    | nil => rfl
    | cons x L => simp at hE
   | cons e es ih =>
    intro L i hE hL
    cases L with
    | nil => simp at hE
    | cons x L =>
     simp only [List.map_cons, List.cons.injEq, Prod.mk.injEq] at hE
     obtain ⟨⟨e1, e2⟩, e3⟩ := hE
     obtain ⟨y, z⟩ := x
     have hy := hL (y, z) (by simp)
     simp only at e1 e2 hy
     simp only [Instr.findAsking, Sem.run_bind, e1, run_equal_kd h hl hy, Result.andThen_ok, findE]
     by_cases hab : ks = y
     ·simp [hab, e2]
     ·simp only [hab, decide_false, Bool.false_eq_true, if_false]
      exact ih L (i + 1) e3 (fun x hx => hL x (by simp [hx]))
  unfold Instr.findKey
  simp only [Sem.run_bind, run_underlying hu, Result.andThen_ok]
  cases es with
  | nil =>
   cases L with
   | nil => rfl
   | cons x L => simp at hE
  | cons e1 es =>
   have : Instr.findNow (.array n e) ((KD.arr n k).val ks) (e1 :: es) 0 = none := rfl
   simp only [this]
   exact key (e1 :: es) L 0 hE hL
end
end Go.Eng
namespace Go.Eng
def sameKD : KD → KD → Bool
 | .one k, .one k' => k == k'
 | .arr n k, .arr n' k' => Nat.beq n n' && k == k'
 | _, _ => false
theorem sameKD_eq {a b : KD} (h : sameKD a b = true) : a = b := by
 cases a <;> cases b <;> simp_all [sameKD]
def collectI (k : IntKind) (f : Nat → PV) : Nat → Nat → Option (List Int)
 | 0, _ => some []
 | n + 1, i => match f i, collectI k f n (i + 1) with
  | .v (.int k' a), some l => if k = k' then some (a :: l) else none
  | _, _ => none
def keyInts (kd : KD) (d : D) : Option (List Int) := match kd with
 | .one k => match d with
  | .p (.v (.int k' n)) => if k = k' then some [n] else none
  | _ => none
 | .arr n k => match d with
  | .p (.vec sz m f) => if sz = 1 ∧ m = n then collectI k f n 0 else none
  | _ => none
section
variable {P : Program} {C : Cx} {F : PHeap} {γ : Gm} {H : List O} {w : World}
theorem WideMaps_getObj {w : World} {r : Nat} {es : Array MapEntry} {clock : Nat} (hb : w.heap[r]? = some (.map es clock)) : (getObj r).run P w = .ok (.map es clock) w := by simp [getObj, Sem.run, hb]
theorem guard_kd {T : TypeId} {n : Nat} {k : IntKind} (h : kdOf P T = some (.arr n k)) (op : BinOp) (x y : Operand) (a b : List Int) (w : World) : (eqGuard op T x y ((KD.arr n k).val a) ((KD.arr n k).val b)).run P w = .ok () w := by
 have hg : P.eqGuardType P.depth T = false := by
  rcases kd_cases h with ⟨k', hk, hu⟩ | ⟨n', e, k', i, hk, hu, he, hi, hc⟩
  ·cases hk
  ·unfold Program.depth
   rw [show 2 * (P.types.size + Made.depth) + 2 = (2 * (P.types.size + Made.depth)) + 1 + 1 from rfl]
   simp only [Program.eqGuardType, hu, he]
 have hp : (program).run P w = .ok P w := rfl
 cases op <;> simp [eqGuard, KD.val, hp, hg]
theorem collectI_val {k : IntKind} {f : Nat → PV} : ∀ {n i : Nat} {l : List Int} {cs : List Value}, collectI k f n i = some l → cs.length = n → (∀ j, j < n → RelP F (f (i + j)) ((cs.drop j).take 1)) → l.length = n ∧ cs = l.map fun a => Value.int k a
 | 0, _, l, cs, h, hl, _ => by
  simp only [collectI, Option.some.injEq] at h
  subst h
  exact ⟨rfl, List.length_eq_zero_iff.1 hl⟩
 | n + 1, i, l, cs, h, hl, hr => by
  simp only [collectI] at h
  split at h
  ·rename_i k' a l' e1 e2
   split at h
   ·rename_i hk
    subst hk
    simp only [Option.some.injEq] at h
    subst h
    match cs, hl with
    | c :: cs, hl =>
     have h0 := hr 0 (by omega)
     simp only [Nat.add_zero, List.drop_zero, List.take_succ_cons, List.take_zero] at h0
     rw [e1] at h0
     cases h0
     obtain ⟨q1, q2⟩ := collectI_val (cs := cs) e2 (by simpa using hl) (fun j hj => by
      have := hr (j + 1) (by omega)
      rw [show i + (j + 1) = i + 1 + j by omega] at this
      simpa using this)
     exact ⟨by simp [q1], by rw [List.map_cons, q2]⟩
   ·cases h
  ·cases h
theorem keyInts_val {kd : KD} {d : D} {ks : List Int} {v : Value} (h : keyInts kd d = some ks) (hr : RelV F γ d v) : v = kd.val ks ∧ ks.length = kd.len := by
 unfold keyInts at h
 split at h
 ·split at h
  ·rename_i k' n
   split at h
   ·rename_i hk
    subst hk
    cases h
    exact ⟨v_val hr, rfl⟩
   ·cases h
  ·cases h
 ·rename_i n k
  split at h
  ·rename_i sz m f
   split at h
   ·rename_i hc
    obtain ⟨rfl, rfl⟩ := hc
    cases hr with
    | one hm => cases hm
    | @many _ cs _ hr =>
     cases hr with
     | p hr =>
      cases hr with
      | vec hl hf =>
       obtain ⟨q1, q2⟩ := collectI_val (F := F) (cs := cs) h (by simpa using hl) (fun j hj => by simpa using hf j hj)
       exact ⟨by simp only [KD.val]; rw [← q2], q1⟩
   ·cases h
  ·cases h
def evLook (P : Program) (H : List O) (t : TypeId) (x key : D) (ok : Bool) : Option (List VP × D) :=
 match P.underlying t with
 | some (.map kt et) => match kdOf P kt, zeroT P et, x with
  | some kd, some z, .own j => match H[j]? with
   | some (.map kd' f) => match keyInts kd key with
    | some ks => if sameKD kd kd' && !z.many then some ([], if ok then .tup [.p ((f ks).getD z), vbool (f ks).isSome] else .p ((f ks).getD z)) else none
    | none => none
   | _ => none
  | _, _, _ => none
 | _ => none
theorem evLook_sound {t : TypeId} {x key d : D} {ok : Bool} {vc vx vk} (hS : SLH C F γ H w) (h : evLook P H t x key ok = some (vc, d)) (hx : RelV F γ x vx) (hk : RelV F γ key vk) :
  ∃ v, RelV F γ d v ∧ ∀ w', Keep w w' → (Instr.lookup t vx vk ok).run P w' = .ok v w' := by
 unfold evLook at h
 split at h
 ·rename_i kt et hu
  split at h
  ·rename_i kd z j e1 e2
   split at h
   ·rename_i kd' f ho
    split at h
    ·rename_i ks hks
     split at h
     ·rename_i hc
      simp only [Bool.and_eq_true, Bool.not_eq_true'] at hc
      obtain rfl := sameKD_eq hc.1
      simp only [Option.some.injEq, Prod.mk.injEq] at h
      obtain ⟨_, rfl⟩ := h
      obtain ⟨rfl, hl⟩ := keyInts_val hks hk
      have hg := own_val hx
      have hO := hS.obj j _ _ ho hg
      cases hO with
      | @map _ _ b es ck L k1 k2 k3 =>
       obtain ⟨zv, z1, z2, z3⟩ := zeroT_sound (F := F) e2
       have hz1 : RelP F z [zv] := by
        have h1 := single_sizeP hc.2 z2
        have hl2 := z2.length
        rw [h1] at hl2
        have : zv.cells = #[zv] := by
         cases zv <;> simp_all [Value.cells, isAggV]
        rw [this] at z2
        exact z2
       have run : ∀ (w' : World), Keep w w' → (Instr.lookup t (.map (some b)) (kd.val ks) ok).run P w' = .ok (if ok then .tuple #[((findE ks L 0).map (·.2)).getD zv, .bool (findE ks L 0).isSome] else ((findE ks L 0).map (·.2)).getD zv) w' := by
        intro w' hw'
        unfold Instr.lookup
        simp only [Sem.run_bind, run_underlying hu, Result.andThen_ok, WideMaps_getObj (hw' _ _ k1), run_checkKey_kd e1 hl, run_findKey_kd e1 hl k2, Sem.run_pure]
        cases hf : findE ks L 0 with
        | none => simp only [Sem.run_bind, run_zero z1, Result.andThen_ok, Sem.run_pure]; rfl
        | some q => obtain ⟨q1, q2⟩ := q; simp only [Sem.run_bind, Result.andThen_ok, Sem.run_pure]; rfl
       have rel : RelV F γ (.p ((f ks).getD z)) (((findE ks L 0).map (·.2)).getD zv) ∧ (f ks).isSome = (findE ks L 0).isSome := by
        rcases k3.2 ks hl with ⟨q1, q2⟩ | ⟨i, v, p, q1, q2, q3, q4⟩
        ·rw [q1, q2]
         exact ⟨.one hc.2 (.p hz1), rfl⟩
        ·rw [q1, q2]
         exact ⟨.one q3 (.p q4), rfl⟩
       refine ⟨_, ?_, run⟩
       cases ok with
       | false => exact rel.1
       | true =>
        simp only [if_true]
        refine .tup (vs := [_, _]) rfl fun i d v hd hv => ?_
        match i with
        | 0 => simp only [List.getElem?_cons_zero, Option.some.injEq] at hd hv; subst hd hv; exact rel.1
        | 1 =>
         simp only [List.getElem?_cons_succ, List.getElem?_cons_zero, Option.some.injEq] at hd hv
         subst hd hv
         rw [rel.2]
         exact relV_bool
        | i + 2 => simp at hd
     ·cases h
    ·cases h
   ·cases h
  ·cases h
 ·cases h
/-! ### Arrays of numbers are compared -/
def evEqA (P : Program) (op : BinOp) (T : TypeId) (x y : D) : Option (List VP × D) := match kdOf P T with
 | some (.arr n k) => match keyInts (.arr n k) x, keyInts (.arr n k) y, op with
  | some a, some b, .eql => some ([], vbool (decide (a = b)))
  | some a, some b, .neq => some ([], vbool (!decide (a = b)))
  | _, _, _ => none
 | _ => none
theorem evEqA_sound {op : BinOp} {T : TypeId} {x y : D} {vx vy vc d} (h : evEqA P op T x y = some (vc, d)) (hx : RelV F γ x vx) (hy : RelV F γ y vy) :
  ∃ v, RelV F γ d v ∧ (∀ w, (binOp op T vx vy).run P w = .ok v w) ∧ (∀ (x y : Operand) w, (eqGuard op T x y vx vy).run P w = .ok () w) := by
 unfold evEqA at h
 split at h
 ·rename_i n k hk
  split at h
  ·rename_i a b e1 e2
   obtain ⟨rfl, h1⟩ := keyInts_val e1 hx
   obtain ⟨rfl, h2⟩ := keyInts_val e2 hy
   simp only [Option.some.injEq, Prod.mk.injEq] at h
   obtain ⟨_, rfl⟩ := h
   refine ⟨_, relV_bool, fun w => ?_, fun x y w => ?_⟩
   ·rw [show binOp .eql T ((KD.arr n k).val a) ((KD.arr n k).val b) = (do let r ← Op.equal T ((KD.arr n k).val a) ((KD.arr n k).val b); pure (.bool r)) from rfl]
    simp only [Sem.run_bind, run_equal_kd hk h1 h2, Result.andThen_ok, Sem.run_pure]
   ·exact guard_kd hk _ _ _ _ _ _
  ·rename_i a b e1 e2
   obtain ⟨rfl, h1⟩ := keyInts_val e1 hx
   obtain ⟨rfl, h2⟩ := keyInts_val e2 hy
   simp only [Option.some.injEq, Prod.mk.injEq] at h
   obtain ⟨_, rfl⟩ := h
   refine ⟨_, relV_bool, fun w => ?_, fun x y w => ?_⟩
   ·rw [show binOp .neq T ((KD.arr n k).val a) ((KD.arr n k).val b) = (do let r ← Op.equal T ((KD.arr n k).val a) ((KD.arr n k).val b); pure (.bool !r)) from rfl]
    simp only [Sem.run_bind, run_equal_kd hk h1 h2, Result.andThen_ok, Sem.run_pure]
   ·exact guard_kd hk _ _ _ _ _ _
  ·cases h
 ·cases h
/-! ### Functions are compared with nil -/
def D.asFn : D → Option Bool
 | .fn _ _ _ => some true
 | .p (.v (.func _ _ _)) => some true
 | .p (.v .nilFunc) => some false
 | _ => none
def evEqF (P : Program) (op : BinOp) (T : TypeId) (x y : D) : Option (List VP × D) := match P.underlying T with
 | some (.func _ _ _) => match x.asFn, y.asFn, op with
  | some true, some false, .eql => some ([], vbool false)
  | some true, some false, .neq => some ([], vbool true)
  | some false, some true, .eql => some ([], vbool false)
  | some false, some true, .neq => some ([], vbool true)
  | _, _, _ => none
 | _ => none
theorem asFn_true {d : D} {v} (h : d.asFn = some true) (hr : RelV F γ d v) : ∃ f a b, v = .func f a b := by
 unfold D.asFn at h
 split at h
 ·cases hr with
  | one _ hr => cases hr with | fn _ _ => exact ⟨_, _, _, rfl⟩
  | many hm => cases hm
 ·cases hr with
  | one _ hr => cases hr with | p hr => cases hr with | v _ => exact ⟨_, _, _, rfl⟩
  | many hm => cases hm
 ·cases h
 ·cases h
theorem asFn_false {d : D} {v} (h : d.asFn = some false) (hr : RelV F γ d v) : v = .nilFunc := by
 unfold D.asFn at h
 split at h
 ·cases h
 ·cases h
 ·cases hr with
  | one _ hr => cases hr with | p hr => cases hr with | v _ => rfl
  | many hm => cases hm
 ·cases h
theorem run_equal_fn {T : TypeId} {ps rs : Array TypeId} {b : Bool} (hu : P.underlying T = some (.func ps rs b)) (f : Fn) (a c : Array Value) (w : World) :
  (Op.equal T (.func f a c) .nilFunc).run P w = .ok false w ∧ (Op.equal T .nilFunc (.func f a c)).run P w = .ok false w := by
 have h : ∀ d, (Op.equalIn (d + 1) T (.func f a c) .nilFunc).run P w = .ok false w ∧ (Op.equalIn (d + 1) T .nilFunc (.func f a c)).run P w = .ok false w := by
  intro d
  constructor <;> simp only [Op.equalIn, Sem.run_bind, run_underlying hu, Result.andThen_ok, Sem.run_pure]
 exact h 9999
theorem evEqF_sound {op : BinOp} {T : TypeId} {x y : D} {vx vy vc d} (h : evEqF P op T x y = some (vc, d)) (hx : RelV F γ x vx) (hy : RelV F γ y vy) :
  ∃ v, RelV F γ d v ∧ (∀ w, (binOp op T vx vy).run P w = .ok v w) ∧ (∀ (x y : Operand) w, (eqGuard op T x y vx vy).run P w = .ok () w) := by
 unfold evEqF at h
 split at h
 ·rename_i ps rs b hu
  split at h
  ·rename_i e1 e2
   obtain ⟨f, a, c, rfl⟩ := asFn_true e1 hx
   obtain rfl := asFn_false e2 hy
   simp only [Option.some.injEq, Prod.mk.injEq] at h
   obtain ⟨_, rfl⟩ := h
   refine ⟨_, relV_bool, fun w => ?_, fun x y w => eqGuard_ok (by intro e; cases e) (by intro cs e; cases e) x y w⟩
   rw [show binOp .eql T (.func f a c) .nilFunc = (do let r ← Op.equal T (.func f a c) .nilFunc; pure (.bool r)) from rfl]
   simp only [Sem.run_bind, (run_equal_fn hu f a c w).1, Result.andThen_ok, Sem.run_pure]
  ·rename_i e1 e2
   obtain ⟨f, a, c, rfl⟩ := asFn_true e1 hx
   obtain rfl := asFn_false e2 hy
   simp only [Option.some.injEq, Prod.mk.injEq] at h
   obtain ⟨_, rfl⟩ := h
   refine ⟨_, relV_bool, fun w => ?_, fun x y w => eqGuard_ok (by intro e; cases e) (by intro cs e; cases e) x y w⟩
   rw [show binOp .neq T (.func f a c) .nilFunc = (do let r ← Op.equal T (.func f a c) .nilFunc; pure (.bool !r)) from rfl]
   simp only [Sem.run_bind, (run_equal_fn hu f a c w).1, Result.andThen_ok, Sem.run_pure]
   rfl
  ·rename_i e1 e2
   obtain ⟨f, a, c, rfl⟩ := asFn_true e2 hy
   obtain rfl := asFn_false e1 hx
   simp only [Option.some.injEq, Prod.mk.injEq] at h
   obtain ⟨_, rfl⟩ := h
   refine ⟨_, relV_bool, fun w => ?_, fun x y w => eqGuard_ok (by intro e; cases e) (by intro cs e; cases e) x y w⟩
   rw [show binOp .eql T .nilFunc (.func f a c) = (do let r ← Op.equal T .nilFunc (.func f a c); pure (.bool r)) from rfl]
   simp only [Sem.run_bind, (run_equal_fn hu f a c w).2, Result.andThen_ok, Sem.run_pure]
  ·rename_i e1 e2
   obtain ⟨f, a, c, rfl⟩ := asFn_true e2 hy
   obtain rfl := asFn_false e1 hx
   simp only [Option.some.injEq, Prod.mk.injEq] at h
   obtain ⟨_, rfl⟩ := h
   refine ⟨_, relV_bool, fun w => ?_, fun x y w => eqGuard_ok (by intro e; cases e) (by intro cs e; cases e) x y w⟩
   rw [show binOp .neq T .nilFunc (.func f a c) = (do let r ← Op.equal T .nilFunc (.func f a c); pure (.bool !r)) from rfl]
   simp only [Sem.run_bind, (run_equal_fn hu f a c w).2, Result.andThen_ok, Sem.run_pure]
   rfl
  ·cases h
 ·cases h
/-! ### Structs of numbers and bools are compared -/
def cellsP : List PV → Option (List Value)
 | [] => some []
 | .v x :: l => (cellsP l).map fun r => x :: r
 | _ :: _ => none
def cellsL : List D → Option (List Value)
 | [] => some []
 | .p (.v x) :: l => (cellsL l).map fun r => x :: r
 | _ :: _ => none
def D.cellsD : D → Option (List Value)
 | .p (.agg l) => cellsP l
 | .agg l => cellsL l
 | _ => none
def eqFs (P : Program) (xs ys : List Value) : List Field → Option Bool
 | [] => some true
 | f :: fs => if f.name ≠ "_" then match P.underlying f.type, xs[f.offset]?, ys[f.offset]? with
   | some (.int _), some (.int k a), some (.int k' b) => if k = k' then (eqFs P xs ys fs).map fun r => (a == b) && r else none
   | some .bool, some (.bool a), some (.bool b) => (eqFs P xs ys fs).map fun r => (a == b) && r
   | _, _, _ => none
  else none
def evEqS (P : Program) (op : BinOp) (T : TypeId) (x y : D) : Option (List VP × D) := match P.underlying T with
 | some (.struct fs) => if P.stoodInHeld T = false ∧ P.eqGuardType P.depth T = false then match x.cellsD, y.cellsD with
   | some a, some b => match eqFs P a b fs.toList, op with
    | some r, .eql => some ([], vbool r)
    | some r, .neq => some ([], vbool (!r))
    | _, _ => none
   | _, _ => none
  else none
 | _ => none
theorem cellsP_rel : ∀ {l : List PV} {vs cs : List Value}, cellsP l = some vs → RelP F (.agg l) cs → cs = vs
 | [], vs, cs, h, hr => by simp only [cellsP, Option.some.injEq] at h; subst h; cases hr; rfl
 | .v x :: l, vs, cs, h, hr => by
  simp only [cellsP, Option.map_eq_some_iff] at h
  obtain ⟨r, h1, rfl⟩ := h
  cases hr with
  | cons h2 h3 =>
   cases h2
   rw [cellsP_rel h1 h3]
   rfl
 | .s _ :: _, _, _, h, _ => by cases h
 | .agg _ :: _, _, _, h, _ => by cases h
 | .vec _ _ _ :: _, _, _, h, _ => by cases h
 | .lst _ _ _ :: _, _, _, h, _ => by cases h
 | .pel _ :: _, _, _, h, _ => by cases h
theorem cellsL_rel : ∀ {l : List D} {vs cs : List Value}, cellsL l = some vs → RelD F γ (.agg l) cs → cs = vs
 | [], vs, cs, h, hr => by simp only [cellsL, Option.some.injEq] at h; subst h; cases hr; rfl
 | d :: l, vs, cs, h, hr => by
  unfold cellsL at h
  split at h
  ·rename_i e; cases e
  ·rename_i x l' e
   cases e
   simp only [Option.map_eq_some_iff] at h
   obtain ⟨r, h1, rfl⟩ := h
   cases hr with
   | cons h2 h3 =>
    cases h2 with
    | p h2 =>
     cases h2
     rw [cellsL_rel h1 h3]
     rfl
  ·cases h
theorem cellsD_rel {d : D} {vs : List Value} {v} (h : d.cellsD = some vs) (hr : RelV F γ d v) : v = .agg vs.toArray := by
 unfold D.cellsD at h
 split at h
 ·cases hr with
  | one hm _ => cases hm
  | many _ hr => cases hr with | p hr => rw [cellsP_rel h hr]
 ·cases hr with
  | one hm _ => cases hm
  | many _ hr => rw [cellsL_rel h hr]
 ·cases h
theorem eqFs_run {xs ys : List Value} (dd : Nat) : ∀ {fs : List Field} {r : Bool}, eqFs P xs ys fs = some r → ∀ w : World, (Op.eqFields (dd + 1) xs.toArray ys.toArray fs).run P w = .ok r w
 | [], r, h, w => by simp only [eqFs, Option.some.injEq] at h; subst h; simp [Op.eqFields]
 | f :: fs, r, h, w => by
  simp only [eqFs] at h
  split at h
  ·rename_i hn
   split at h
   ·rename_i k0 k a k' b hu hx hy
    split at h
    ·rename_i hk
     subst hk
     simp only [Option.map_eq_some_iff] at h
     obtain ⟨r', h1, rfl⟩ := h
     have hp := plain_int hu
     simp only [Op.eqFields]
     rw [if_pos hn]
     simp only [Sem.run_bind, run_part_plain w hp (xs := xs.toArray) (by simpa using hx), run_part_plain w hp (xs := ys.toArray) (by simpa using hy), Result.andThen_ok, run_equalIn_int w dd f.type k k0 a b hu]
     cases hab : (a == b) with
     | true => simp [eqFs_run dd h1 w]
     | false => simp
    ·cases h
   ·rename_i a b hu hx hy
    simp only [Option.map_eq_some_iff] at h
    obtain ⟨r', h1, rfl⟩ := h
    have hp : P.plainKey f.type = true := by simp [Program.plainKey, hu]
    simp only [Op.eqFields]
    rw [if_pos hn]
    simp only [Sem.run_bind, run_part_plain w hp (xs := xs.toArray) (by simpa using hx), run_part_plain w hp (xs := ys.toArray) (by simpa using hy), Result.andThen_ok, run_equalIn_bool' w dd f.type a b hu]
    cases hab : (a == b) with
    | true => simp [eqFs_run dd h1 w]
    | false => simp
   ·cases h
  ·cases h
theorem evEqS_sound {op : BinOp} {T : TypeId} {x y : D} {vx vy vc d} (h : evEqS P op T x y = some (vc, d)) (hx : RelV F γ x vx) (hy : RelV F γ y vy) :
  ∃ v, RelV F γ d v ∧ (∀ w, (binOp op T vx vy).run P w = .ok v w) ∧ (∀ (x y : Operand) w, (eqGuard op T x y vx vy).run P w = .ok () w) := by
 unfold evEqS at h
 split at h
 ·rename_i fs hu
  split at h
  ·rename_i hc
   split at h
   ·rename_i a b e1 e2
    obtain rfl := cellsD_rel e1 hx
    obtain rfl := cellsD_rel e2 hy
    have hfs : P.fieldsOf T = fs := by simp [Program.fieldsOf, hu]
    have heq : ∀ {r : Bool}, eqFs P a b fs.toList = some r → ∀ w, (Op.equal T (.agg a.toArray) (.agg b.toArray)).run P w = .ok r w := fun {r} hr w => by
     show (Op.equalIn (9999 + 1) T _ _).run P w = _
     rw [run_equalIn_struct w 9999 T _ _ (by rw [hfs]; exact hu) hc.1, hfs]
     exact eqFs_run 9998 hr w
    split at h
    ·rename_i r hr
     simp only [Option.some.injEq, Prod.mk.injEq] at h
     obtain ⟨_, rfl⟩ := h
     refine ⟨_, relV_bool, fun w => ?_, fun x y w => run_eqGuard_agg w _ _ _ _ _ _ hc.2⟩
     rw [show binOp .eql T (.agg a.toArray) (.agg b.toArray) = (do let r ← Op.equal T (.agg a.toArray) (.agg b.toArray); pure (.bool r)) from rfl]
     simp only [Sem.run_bind, heq hr, Result.andThen_ok, Sem.run_pure]
    ·rename_i r hr
     simp only [Option.some.injEq, Prod.mk.injEq] at h
     obtain ⟨_, rfl⟩ := h
     refine ⟨_, relV_bool, fun w => ?_, fun x y w => run_eqGuard_agg w _ _ _ _ _ _ hc.2⟩
     rw [show binOp .neq T (.agg a.toArray) (.agg b.toArray) = (do let r ← Op.equal T (.agg a.toArray) (.agg b.toArray); pure (.bool !r)) from rfl]
     simp only [Sem.run_bind, heq hr, Result.andThen_ok, Sem.run_pure]
    ·cases h
   ·cases h
  ·cases h
 ·cases h
def evBinA (P : Program) (op : BinOp) (T : TypeId) (x y : D) : Option (List VP × D) := match evBin P op T x y with
 | some r => some r
 | none => match evEqA P op T x y with
  | some r => some r
  | none => match evEqF P op T x y with
   | some r => some r
   | none => evEqS P op T x y
theorem evBinA_sound {op : BinOp} {T : TypeId} {x y : D} {vx vy vc d} (h : evBinA P op T x y = some (vc, d)) (hvc : all vc) (hx : RelV F γ x vx) (hy : RelV F γ y vy) :
  ∃ v, RelV F γ d v ∧ (∀ w, (binOp op T vx vy).run P w = .ok v w) ∧ (∀ (x y : Operand) w, (eqGuard op T x y vx vy).run P w = .ok () w) := by
 unfold evBinA at h
 split at h
 ·rename_i r hr
  cases h
  exact evBin_sound hr hvc hx hy
 ·split at h
  ·rename_i r hr
   cases h
   exact evEqA_sound hr hx hy
  ·split at h
   ·rename_i r hr
    cases h
    exact evEqF_sound hr hx hy
   ·exact evEqS_sound h hx hy
end
end Go.Eng
namespace Go.Eng
section
variable {P : Program} {C : Cx} {F : PHeap} {γ : Gm} {H : List O} {w : World}
def evUn (op : UnOp) (x : D) : Option (List VP × D) :=
 match x.asInt with
 | some (k, n) => match op with
  | .neg => some ([], vint k (k.wrap (0 - n)))
  | .xor => some ([], vint k (bitsOf .xor k (if k.signed then -1 else k.max) n))
  | _ => none
 | none => match x.asBool with
  | some b => match op with
   | .not => some ([], vbool (!b))
   | _ => none
  | none => none
theorem evUn_sound {op : UnOp} {x d : D} {vc vx} (h : evUn op x = some (vc, d)) (hx : RelV F γ x vx) : ∃ v, RelV F γ d v ∧ ∀ w, (Op.unary op vx).run P w = .ok v w := by
 unfold evUn at h
 split at h
 ·rename_i k n e
  have e := asInt_val e hx
  subst e
  cases op <;> simp only [Option.some.injEq, Prod.mk.injEq, reduceCtorEq] at h <;> obtain ⟨rfl, rfl⟩ := h
  ·exact ⟨_, relV_int, fun w => by simp [Op.unary, Op.intArith]⟩
  ·exact ⟨_, relV_int, fun w => by simp [Op.unary, Op.intBits, bitsOf]⟩
 ·split at h
  ·rename_i b e
   have e := asBool_val e hx
   subst e
   cases op <;> simp only [Option.some.injEq, Prod.mk.injEq, reduceCtorEq] at h
   obtain ⟨rfl, rfl⟩ := h
   exact ⟨_, relV_bool, fun w => by simp [Op.unary]⟩
  ·cases h
def evExtract (x : D) (i : Nat) : Option (List VP × D) := match x with
 | .tup l => match l[i]? with
  | some d => some ([], d)
  | none => none
 | _ => none
theorem evExtract_sound {x d : D} {i : Nat} {vc vx} (h : evExtract x i = some (vc, d)) (hx : RelV F γ x vx) : ∃ v, RelV F γ d v ∧ ∀ w, (Instr.extract vx i).run P w = .ok v w := by
 unfold evExtract at h
 split at h
 ·rename_i l
  split at h
  ·rename_i d' hd
   simp only [Option.some.injEq, Prod.mk.injEq] at h
   obtain ⟨rfl, rfl⟩ := h
   cases hx with
   | one _ hx => cases hx
   | many hm _ => cases hm
   | @tup _ vs hl hv =>
    have hi : i < l.length := by
     rcases Nat.lt_or_ge i l.length with h | h
     ·exact h
     ·rw [List.getElem?_eq_none h] at hd; cases hd
    have hvi : vs[i]? = some vs[i] := List.getElem?_eq_getElem (by omega)
    refine ⟨vs[i], hv i _ _ hd hvi, fun w => ?_⟩
    simp only [Instr.extract, List.getElem?_toArray, hvi]
    rfl
  ·cases h
 ·cases h
def evConvert (P : Program) (src dst : TypeId) (x : D) : Option (List VP × D) :=
 match P.underlying src, P.underlying dst with
 | some _, some (.int k) => match x.asInt with
  | some (_, n) => some ([], vint k (k.wrap n))
  | none => none
 | some .string, some .string => match x.asStr with
  | some l => some ([], vstr l)
  | none => none
 | some (.int _), some .string => match x.asInt with
  | some (_, n) => some ([], vstr (Utf8.encode n).data.toList)
  | none => none
 | _, _ => none
theorem evConvert_sound {src dst : TypeId} {x d : D} {vc vx} (h : evConvert P src dst x = some (vc, d)) (hx : RelV F γ x vx) : ∃ v, RelV F γ d v ∧ ∀ w, (convert src dst vx).run P w = .ok v w := by
 unfold evConvert at h
 split at h
 ·rename_i d1 k h1 h2
  split at h
  ·rename_i k' n e
   have e := asInt_val e hx
   subst e
   simp only [Option.some.injEq, Prod.mk.injEq] at h
   obtain ⟨rfl, rfl⟩ := h
   exact ⟨_, relV_int, fun w => by simp [convert, run_underlying h1, run_underlying h2, Conv.intToInt]⟩
  ·cases h
 ·rename_i h1 h2
  split at h
  ·rename_i l e
   have e := asStr_val e hx
   subst e
   simp only [Option.some.injEq, Prod.mk.injEq] at h
   obtain ⟨rfl, rfl⟩ := h
   exact ⟨_, relV_str, fun w => by simp [convert, run_underlying h1, run_underlying h2]⟩
  ·cases h
 ·rename_i h1 h2
  split at h
  ·rename_i k' n e
   have e := asInt_val e hx
   subst e
   simp only [Option.some.injEq, Prod.mk.injEq] at h
   obtain ⟨rfl, rfl⟩ := h
   exact ⟨_, relV_str, fun w => by simp [convert, run_underlying h1, run_underlying h2, Conv.intToString]⟩
  ·cases h
 ·cases h
def evMin (x y : D) : Option (List VP × D) := match x.asInt, y.asInt with
 | some (k, a), some (_, b) => some ([], vint k (min a b))
 | _, _ => none
def evMax (x y : D) : Option (List VP × D) := match x.asInt, y.asInt with
 | some (k, a), some (_, b) => some ([], vint k (max a b))
 | _, _ => none
theorem evMin_sound {x y d : D} {vc vx vy} {ts t} (h : evMin x y = some (vc, d)) (hx : RelV F γ x vx) (hy : RelV F γ y vy) : ∃ v, RelV F γ d v ∧ ∀ w, (Builtin.min_ ts t #[vx, vy]).run P w = .ok v w := by
 unfold evMin at h
 split at h
 ·rename_i k a k' b e1 e2
  have e1 := asInt_val e1 hx
  have e2 := asInt_val e2 hy
  subst e1 e2
  simp only [Option.some.injEq, Prod.mk.injEq] at h
  obtain ⟨rfl, rfl⟩ := h
  refine ⟨_, relV_int, fun w => ?_⟩
  have e : (if b < a then b else a) = min a b := by omega
  simp [Builtin.min_, Builtin.min2, e]
 ·cases h
theorem evMax_sound {x y d : D} {vc vx vy} {ts t} (h : evMax x y = some (vc, d)) (hx : RelV F γ x vx) (hy : RelV F γ y vy) : ∃ v, RelV F γ d v ∧ ∀ w, (Builtin.max_ ts t #[vx, vy]).run P w = .ok v w := by
 unfold evMax at h
 split at h
 ·rename_i k a k' b e1 e2
  have e1 := asInt_val e1 hx
  have e2 := asInt_val e2 hy
  subst e1 e2
  simp only [Option.some.injEq, Prod.mk.injEq] at h
  obtain ⟨rfl, rfl⟩ := h
  refine ⟨_, relV_int, fun w => ?_⟩
  have e : (if a < b then b else a) = max a b := by omega
  have e' : (if b > a then b else a) = max a b := by omega
  simp [Builtin.max_, Builtin.max2, e, e']
 ·cases h
def isPlace : D → Bool
 | .ref _ _ => true
 | .p (.pel _) => true
 | _ => false
def evOpt (ev : Operand → Option D) : Option Operand → Option (Option D)
 | none => some none
 | some x => match ev x with
  | some d => some (some d)
  | none => none
def evList (ev : Operand → Option D) : List Operand → Option (List D)
 | [] => some []
 | x :: l => match ev x, evList ev l with
  | some d, some r => if d.isTup || d.many then none else some (d :: r)
  | _, _ => none
theorem relV_single {d : D} {v} (h : RelV F γ d v) (h1 : d.isTup = false) (h2 : d.many = false) : RelD F γ d [v] := by
 cases h with
 | one _ h => exact h
 | many hm => rw [hm] at h2; cases h2
 | tup => cases h1
theorem evOpt_spec {ev : Operand → Option D} {ρ : Operand → Value} {x : Option Operand} {d} (hev : ∀ y, x = some y → ∀ d, ev y = some d → RelV F γ d (ρ y)) (h : evOpt ev x = some d) :
  (d = none ∧ x.map ρ = none) ∨ ∃ d' v, d = some d' ∧ x.map ρ = some v ∧ RelV F γ d' v := by
 cases x with
 | none => simp only [evOpt, Option.some.injEq] at h; exact .inl ⟨h.symm, rfl⟩
 | some x =>
  simp only [evOpt] at h
  split at h
  ·rename_i d' hd
   simp only [Option.some.injEq] at h
   exact .inr ⟨d', ρ x, h.symm, rfl, hev _ rfl _ hd⟩
  ·cases h
theorem evList_spec {ev : Operand → Option D} {ρ : Operand → Value} : ∀ {l : List Operand} {ds}, (∀ x ∈ l, ∀ d, ev x = some d → RelV F γ d (ρ x)) → evList ev l = some ds → RelD F γ (.agg ds) (l.map ρ)
 | [], ds, _, h => by simp only [evList, Option.some.injEq] at h; subst h; exact .nil
 | x :: l, ds, hev, h => by
  simp only [evList] at h
  split at h
  ·rename_i d r hd hr
   split at h
   ·cases h
   ·rename_i hc
    simp only [Option.some.injEq] at h
    subst h
    simp only [Bool.or_eq_true, not_or, Bool.not_eq_true] at hc
    exact .cons (c1 := [_]) (relV_single (hev _ List.mem_cons_self _ hd) hc.1 hc.2) (evList_spec (fun y hy => hev y (List.mem_cons_of_mem _ hy)) hr)
  ·cases h
def evQ (P : Program) (H : List O) (ev : Operand → Option D) : Op → Option (List VP × D)
 | .move x => match ev x with
  | some d => some ([], d)
  | none => none
 | .assign x => match ev x with
  | some d => some ([], d)
  | none => none
 | .binOp op T x y _ => match ev x, ev y with
  | some a, some b => evBinA P op T a b
  | _, _ => none
 | .unOp op _ x => match ev x with
  | some a => evUn op a
  | none => none
 | .load t x => match ev x with
  | some a => evLoad P H t a
  | none => none
 | .fieldAddr s x k => match ev x with
  | some a => evField P s k a
  | none => none
 | .indexAddr t x i => match ev x, ev i with
  | some a, some b => evIndexAddr P H t a b
  | _, _ => none
 | .index t x i => match ev x, ev i with
  | some a, some b => evIndexV P t a b
  | _, _ => none
 | .lookup t x k ok => match ev x, ev k with
  | some a, some b => evLook P H t a b ok
  | _, _ => none
 | .field t x k => match ev x with
  | some a => evFieldV P t k a
  | none => none
 | .build t parts => match evParts ev parts.toList with
  | some ps => evBuild P t ps
  | none => none
 | .extract x i => match ev x with
  | some a => evExtract a i
  | none => none
 | .convert s t x => match ev x with
  | some a => evConvert P s t a
  | none => none
 | .slice t x lo hi none => match ev x, evOpt ev lo, evOpt ev hi with
  | some (.own i), some none, some (some c) => evSliceO P H t i c
  | some a, some b, some c => evSlice P t a b c
  | _, _, _ => none
 | .nilCheck x => match ev x with
  | some a => if isPlace a then some ([], a) else none
  | none => none
 | .makeFunc (.func f) first caps => match evList ev first.toList, evList ev caps.toList with
   | some asx, some ds => some ([], .fn f asx ds)
   | _, _ => none
 | .call { callee := .builtin b, args, argTypes } => match b, args.toList, argTypes.toList with
  | .len, [x], [t] => match ev x with
   | some a => evLen P H t a
   | none => none
  | .min, [x, y], _ => match ev x, ev y with
   | some a, some b => evMin a b
   | _, _ => none
  | .max, [x, y], _ => match ev x, ev y with
   | some a, some b => evMax a b
   | _, _ => none
  | _, _, _ => none
 | _ => none
theorem runV {s : Sem Value} {v : Value} {w : World} (h : s.run P w = .ok v w) : (do pure (Next.value (← s)) : Sem Next).run P w = .ok (.value v) w := by
 simp [h]
theorem evQ_sound {ev : Operand → Option D} {ρ : Operand → Value} {o : Oper} {vc d} (hS : SLH C F γ H w) (hev : ∀ x ∈ o.op.operands, ∀ d, ev x = some d → RelV F γ d (ρ x)) (h : evQ P H ev o.op = some (vc, d)) (hvc : all vc) :
  ∃ v, RelV F γ d v ∧ ∀ w' : World, Keep w w' → (execOp ρ o).run P w' = .ok (.value v) w' := by
 unfold evQ at h
 unfold execOp
 split at h
 ·rename_i x ho
  split at h
  ·rename_i a ha
   simp only [Option.some.injEq, Prod.mk.injEq] at h
   obtain ⟨rfl, rfl⟩ := h
   exact ⟨_, hev _ (by rw [ho]; simp [Op.operands]) _ ha, fun w' _ => by simp [ho]⟩
  ·cases h
 ·rename_i x ho
  split at h
  ·rename_i a ha
   simp only [Option.some.injEq, Prod.mk.injEq] at h
   obtain ⟨rfl, rfl⟩ := h
   exact ⟨_, hev _ (by rw [ho]; simp [Op.operands]) _ ha, fun w' _ => by simp [ho]⟩
  ·cases h
 ·rename_i op T x y yt ho
  split at h
  ·rename_i a b ha hb
   obtain ⟨v, h1, h2, h3⟩ := evBinA_sound h hvc (hev _ (by rw [ho]; simp [Op.operands]) _ ha) (hev _ (by rw [ho]; simp [Op.operands]) _ hb)
   refine ⟨v, h1, fun w' _ => ?_⟩
   simp only [ho, Sem.run_bind, h3, Result.andThen_ok, h2, Sem.run_pure]
  ·cases h
 ·rename_i op T x ho
  split at h
  ·rename_i a ha
   obtain ⟨v, h1, h2⟩ := evUn_sound (P := P) h (hev _ (by rw [ho]; simp [Op.operands]) _ ha)
   exact ⟨v, h1, fun w' _ => by simp only [ho]; exact runV (h2 w')⟩
  ·cases h
 ·rename_i t x ho
  split at h
  ·rename_i a ha
   obtain ⟨v, h1, h2⟩ := evLoad_sound hS h hvc (hev _ (by rw [ho]; simp [Op.operands]) _ ha)
   exact ⟨v, h1, fun w' hw' => by simp only [ho]; exact runV (h2 w' hw')⟩
  ·cases h
 ·rename_i s x k ho
  split at h
  ·rename_i a ha
   obtain ⟨v, h1, h2⟩ := evField_sound h (hev _ (by rw [ho]; simp [Op.operands]) _ ha)
   exact ⟨v, h1, fun w' _ => by simp only [ho]; exact runV (h2 w')⟩
  ·cases h
 ·rename_i t x i ho
  split at h
  ·rename_i a b ha hb
   obtain ⟨v, h1, h2⟩ := evIndexAddr_sound hS h hvc (hev _ (by rw [ho]; simp [Op.operands]) _ ha) (hev _ (by rw [ho]; simp [Op.operands]) _ hb)
   exact ⟨v, h1, fun w' _ => by simp only [ho]; exact runV (h2 w')⟩
  ·cases h
 ·rename_i t x i ho
  split at h
  ·rename_i a b ha hb
   obtain ⟨v, h1, h2⟩ := evIndexV_sound h hvc (hev _ (by rw [ho]; simp [Op.operands]) _ ha) (hev _ (by rw [ho]; simp [Op.operands]) _ hb)
   exact ⟨v, h1, fun w' _ => by simp only [ho]; exact runV (h2 w')⟩
  ·cases h
 ·rename_i t x k ok ho
  split at h
  ·rename_i a b ha hb
   obtain ⟨v, h1, h2⟩ := evLook_sound hS h (hev _ (by rw [ho]; simp [Op.operands]) _ ha) (hev _ (by rw [ho]; simp [Op.operands]) _ hb)
   exact ⟨v, h1, fun w' hw' => by simp only [ho]; exact runV (h2 w' hw')⟩
  ·cases h
 ·rename_i t x k ho
  split at h
  ·rename_i a ha
   obtain ⟨v, h1, h2⟩ := evFieldV_sound h (hev _ (by rw [ho]; simp [Op.operands]) _ ha)
   exact ⟨v, h1, fun w' _ => by simp only [ho]; exact runV (h2 w')⟩
  ·cases h
 ·rename_i t parts ho
  split at h
  ·rename_i ps hps
   obtain ⟨v, h1, h2⟩ := evBuild_sound (fun kx hk => hev kx.2 (by rw [ho]; simp only [Op.operands, List.mem_toArray, List.mem_map]; exact ⟨kx, hk, rfl⟩)) hps h hvc
   exact ⟨v, h1, fun w' _ => by simp only [ho]; exact runV (h2 w')⟩
  ·cases h
 ·rename_i x i ho
  split at h
  ·rename_i a ha
   obtain ⟨v, h1, h2⟩ := evExtract_sound (P := P) h (hev _ (by rw [ho]; simp [Op.operands]) _ ha)
   exact ⟨v, h1, fun w' _ => by simp only [ho]; exact runV (h2 w')⟩
  ·cases h
 ·rename_i s t x ho
  split at h
  ·rename_i a ha
   obtain ⟨v, h1, h2⟩ := evConvert_sound h (hev _ (by rw [ho]; simp [Op.operands]) _ ha)
   exact ⟨v, h1, fun w' _ => by simp only [ho]; exact runV (h2 w')⟩
  ·cases h
 ·rename_i t x lo hi ho
  split at h
  ·rename_i i c ha hb hc
   have e1 := evOpt_spec (ρ := ρ) (fun y hy => hev y (by rw [ho, hy]; simp [Op.operands])) hb
   have e2 := evOpt_spec (ρ := ρ) (fun y hy => hev y (by rw [ho, hy]; simp [Op.operands])) hc
   rcases e1 with ⟨_, e1⟩ | ⟨d', _, e1, _⟩
   ·rcases e2 with ⟨e2, _⟩ | ⟨d', v', e2, e3, e4⟩
    ·cases e2
    ·cases e2
     obtain ⟨v, h1, h2⟩ := evSliceO_sound hS h hvc (hev _ (by rw [ho]; simp [Op.operands]) _ ha) e4
     refine ⟨v, h1, fun w' _ => ?_⟩
     simp only [ho]
     rw [e1, e3]
     exact runV (h2 w')
   ·cases e1
  ·rename_i a b c ha hb hc
   obtain ⟨v, h1, h2⟩ := evSlice_sound h hvc (hev _ (by rw [ho]; simp [Op.operands]) _ ha) (evOpt_spec (fun y hy => hev y (by rw [ho, hy]; simp [Op.operands])) hb) (evOpt_spec (fun y hy => hev y (by rw [ho, hy]; simp [Op.operands])) hc)
   exact ⟨v, h1, fun w' _ => by simp only [ho]; exact runV (h2 w')⟩
  ·cases h
 ·rename_i x ho
  split at h
  ·rename_i a ha
   split at h
   ·rename_i hp
    simp only [Option.some.injEq, Prod.mk.injEq] at h
    obtain ⟨rfl, rfl⟩ := h
    have h1 := hev _ (by rw [ho]; simp [Op.operands]) _ ha
    refine ⟨_, h1, fun w' _ => ?_⟩
    simp only [ho]
    generalize ρ x = u at h1
    unfold isPlace at hp
    split at hp
    ·cases h1 with
     | many hm => cases hm
     | one _ h1 => cases h1; rfl
    ·cases h1 with
     | many hm => cases hm
     | one _ h1 => cases h1 with | p h1 => cases h1; rfl
    ·cases hp
   ·cases h
  ·cases h
 ·rename_i f first caps ho
  split at h
  ·rename_i asx ds has hds
   simp only [Option.some.injEq, Prod.mk.injEq] at h
   obtain ⟨rfl, rfl⟩ := h
   refine ⟨_, .one rfl (.fn (evList_spec (fun y hy => hev y (by rw [ho]; simp only [Op.operands, Array.mem_append]; exact .inl (by simpa using hy))) has)
    (evList_spec (fun y hy => hev y (by rw [ho]; simp only [Op.operands, Array.mem_append]; exact .inr (by simpa using hy))) hds)), fun w' _ => ?_⟩
   simp [ho, Instr.makeFunc, ← List.map_toArray]
  ·cases h
 ·rename_i b args argTypes ho
  split at h
  ·rename_i x t hx ht
   split at h
   ·rename_i a ha
    have e1 : args = #[x] := by rw [← Array.toArray_toList (xs := args), hx]
    have e2 : argTypes = #[t] := by rw [← Array.toArray_toList (xs := argTypes), ht]
    subst e1 e2
    obtain ⟨v, h1, h2⟩ := evLen_sound (ty := o.type) hS h (hev _ (by rw [ho]; simp [Op.operands, Call.operands]) _ ha)
    refine ⟨v, h1, fun w' _ => ?_⟩
    simp only [ho, resolve, invoke, builtin, Sem.run_bind, Sem.run_pure, Result.andThen_ok, List.map_toArray, List.map_cons, List.map_nil, h2]
   ·cases h
  ·rename_i x y hx
   split at h
   ·rename_i a b ha hb
    have e1 : args = #[x, y] := by rw [← Array.toArray_toList (xs := args), hx]
    subst e1
    obtain ⟨v, h1, h2⟩ := evMin_sound (P := P) (ts := argTypes) (t := o.type) h (hev _ (by rw [ho]; simp [Op.operands, Call.operands]) _ ha) (hev _ (by rw [ho]; simp [Op.operands, Call.operands]) _ hb)
    refine ⟨v, h1, fun w' _ => ?_⟩
    simp only [ho, resolve, invoke, builtin, Sem.run_bind, Sem.run_pure, Result.andThen_ok, List.map_toArray, List.map_cons, List.map_nil, h2]
   ·cases h
  ·rename_i x y hx
   split at h
   ·rename_i a b ha hb
    have e1 : args = #[x, y] := by rw [← Array.toArray_toList (xs := args), hx]
    subst e1
    obtain ⟨v, h1, h2⟩ := evMax_sound (P := P) (ts := argTypes) (t := o.type) h (hev _ (by rw [ho]; simp [Op.operands, Call.operands]) _ ha) (hev _ (by rw [ho]; simp [Op.operands, Call.operands]) _ hb)
    refine ⟨v, h1, fun w' _ => ?_⟩
    simp only [ho, resolve, invoke, builtin, Sem.run_bind, Sem.run_pure, Result.andThen_ok, List.map_toArray, List.map_cons, List.map_nil, h2]
   ·cases h
  ·cases h
 ·cases h
end
end Go.Eng
namespace Go.Eng
section
variable {P : Program} {C : Cx} {F : PHeap} {γ : Gm} {H : List O} {w : World} {E : Env} {a : Act}
def constD (v : Value) : Option D := match v with
 | .string s => some (.p (.s s.data.toList))
 | v => if v.oneCell' then some (.p (.v v)) else none
theorem constD_rel {v : Value} {d : D} (h : constD v = some d) : RelV F γ d v := by
 unfold constD at h
 split at h
 ·rename_i s
  simp only [Option.some.injEq] at h
  subst h
  have : RelV F γ (vstr s.data.toList) (.string ⟨s.data.toList.toArray⟩) := relV_str
  rwa [Lib.mk_data] at this
 ·split at h
  ·rename_i h1
   simp only [Option.some.injEq] at h
   subst h
   exact .one rfl (.p (.v h1))
  ·cases h
def evE (E : Env) : Operand → Option D
 | .tmp t => match E.get t with
  | some (_, d) => some d
  | none => none
 | .const v => constD v
 | .func f => some (.fn f [] [])
 | .global g => (globPV g).map fun x => .p (.pel x)
def execCond (ops : Array Oper) (E : Env) (o : Oper) : Option (Option Bool) :=
 match o.guard with
 | none => some none
 | some (j, want) => match (ops[j]?).bind (·.dst) with
  | some t => match E.get t with
   | some (g, .p (.v (.bool b))) => some (some (match g, want with
    | none, true => b
    | none, false => !b
    | some c, true => c && b
    | some c, false => c && !b))
   | _ => none
  | none => none
theorem wanted_iff {ops : Array Oper} {o : Oper} {e : Option Bool} (hE : SLE F γ E a) (h : execCond ops E o = some e) : Region.wanted o (yielded ops a.tmps) = true ↔ on e := by
 unfold execCond at h
 split at h
 ·rename_i hg
  simp only [Option.some.injEq] at h
  subst h
  simp [Region.wanted, hg, on]
 ·rename_i j want hg
  split at h
  ·rename_i t ht
   split at h
   ·rename_i g b hget
    simp only [Option.some.injEq] at h
    subst h
    obtain ⟨h1, h2⟩ := hE _ _ _ hget
    have hy : ∀ x, a.tmps[t]? = some x → yielded ops a.tmps j = match x with | .bool b => some b | _ => none := by
     intro x hx
     simp only [yielded, ht, Option.bind_some, hx]
     cases x <;> rfl
    have key : on g → yielded ops a.tmps j = some b := by
     intro hon
     obtain ⟨v, e1, e2⟩ := h1 hon
     rw [hy v e1, v_val e2]
    have key2 : ¬ on g → yielded ops a.tmps j = none := by
     intro hon
     rw [hy _ (h2 hon)]; rfl
    simp only [Region.wanted, hg]
    cases g with
    | none =>
     rw [key trivial]
     cases want <;> cases b <;> simp [on]
    | some c =>
     cases c with
     | true => rw [key rfl]; cases want <;> cases b <;> simp [on]
     | false => rw [key2 (by simp [on])]; cases want <;> cases b <;> simp [on]
   ·cases h
  ·cases h
def needs (E : Env) (e : Option Bool) : List Operand → Option (List VP)
 | [] => some []
 | .tmp t :: l => match E.get t, needs E e l with
  | some (none, _), some r => some r
  | some (some b, _), some r => match e with
   | none => some ((b = true) :: r)
   | some c => some ((c = true → b = true) :: r)
  | _, _ => none
 | _ :: l => needs E e l
theorem eval_tmp {t : Tmp} {v : Value} (h : a.tmps[t]? = some v) : a.eval (.tmp t) = v := by
 simp [Act.eval, Array.getD_eq_getD_getElem?, h]
theorem needs_spec {e : Option Bool} (hG : Glob F) (hE : SLE F γ E a) (he : on e) : ∀ {xs : List Operand} {vc}, needs E e xs = some vc → all vc → ∀ x ∈ xs, ∀ d, evE E x = some d → RelV F γ d (a.eval x)
 | [], _, _, _, x, hx, _, _ => by cases hx
 | y :: xs, vc, h, hvc, x, hx, d, hd => by
  have hconst : (∀ t, x ≠ .tmp t) → RelV F γ d (a.eval x) := by
   intro hn
   cases x with
   | tmp t => exact absurd rfl (hn t)
   | const v => exact constD_rel hd
   | global g =>
    simp only [evE, Option.map_eq_some_iff] at hd
    obtain ⟨p, hp, rfl⟩ := hd
    exact .one rfl (.p (hG g p hp))
   | func f => simp only [evE, Option.some.injEq] at hd; subst hd; exact .one rfl (.fn (us := []) (vs := []) .nil .nil)
  cases y with
  | tmp t =>
   simp only [needs] at h
   split at h
   ·rename_i d0 r hg hr
    simp only [Option.some.injEq] at h
    subst h
    rcases List.mem_cons.1 hx with rfl | hx
    ·simp only [evE, hg, Option.some.injEq] at hd
     subst hd
     obtain ⟨v, e1, e2⟩ := (hE _ _ _ hg).1 trivial
     rw [eval_tmp e1]; exact e2
    ·exact needs_spec hG hE he hr hvc x hx d hd
   ·rename_i b d0 r hg hr
    have hb : b = true ∧ all r := by
     split at h <;> simp only [Option.some.injEq] at h <;> subst h <;> rw [all_cons] at hvc
     ·exact hvc
     ·exact ⟨hvc.1 he, hvc.2⟩
    rcases List.mem_cons.1 hx with rfl | hx
    ·simp only [evE, hg, Option.some.injEq] at hd
     subst hd
     obtain ⟨v, e1, e2⟩ := (hE _ _ _ hg).1 hb.1
     rw [eval_tmp e1]; exact e2
    ·exact needs_spec hG hE he hr hb.2 x hx d hd
   ·cases h
  | const v =>
   simp only [needs] at h
   rcases List.mem_cons.1 hx with rfl | hx
   ·exact hconst (by intro t h; cases h)
   ·exact needs_spec hG hE he h hvc x hx d hd
  | global v =>
   simp only [needs] at h
   rcases List.mem_cons.1 hx with rfl | hx
   ·exact hconst (by intro t h; cases h)
   ·exact needs_spec hG hE he h hvc x hx d hd
  | func v =>
   simp only [needs] at h
   rcases List.mem_cons.1 hx with rfl | hx
   ·exact hconst (by intro t h; cases h)
   ·exact needs_spec hG hE he h hvc x hx d hd
def gP (e : Option Bool) (v : VP) : VP := match e with
 | none => v
 | some b => ⟨b = true → v.p, match v.b with
  | some x => some (!b || x)
  | none => none, fun h hb => v.ok (by subst hb; revert h; cases v.b <;> simp)⟩
theorem gP_on {e : Option Bool} {v : VP} (he : on e) (h : (gP e v).p) : v.p := by
 cases e with
 | none => exact h
 | some b => exact h he
theorem all_gP {e : Option Bool} (he : on e) : ∀ {l : List VP}, all (l.map (gP e)) → all l
 | [], _ => trivial
 | p :: l, h => by
  rw [List.map_cons, all_cons] at h
  rw [all_cons]
  exact ⟨gP_on he h.1, all_gP he h.2⟩
def eqD : D → D → Prop
 | .p (.v (.int k a)), .p (.v (.int k' b)) => if k = k' then a = b else False
 | .p (.v (.bool a)), .p (.v (.bool b)) => a = b
 | .p (.s a), .p (.s b) => a = b
 | .p (.lst sz n f), .p (.lst sz' n' f') => if sz = sz' then n = n' ∧ ∀ j, j < n → f j = f' j else False
 | .p (.v (.slice none 0 0)), .p (.lst _ n _) => n = 0
 | d, d' => d = d'
theorem eqD_rel {d d' : D} (h : eqD d d') {v} (hr : RelV F γ d v) : RelV F γ d' v := by
 unfold eqD at h
 split at h
 ·split at h
  ·rename_i hk; rw [← h, ← hk]; exact hr
  ·cases h
 ·rw [← h]; exact hr
 ·rw [← h]; exact hr
 ·rename_i sz n f sz' n' f'
  split at h
  ·rename_i hs
   obtain ⟨hn, hf⟩ := h
   subst hs hn
   cases hr with
   | many hm => cases hm
   | one _ hr =>
    cases hr with
    | p hr =>
     cases hr with
     | lst0 => exact .one rfl (.p .lst0)
     | lst k1 k2 k3 k4 => exact .one rfl (.p (.lst k1 k2 k3 fun i hi => by rw [← hf i hi]; exact k4 i hi))
  ·cases h
 ·subst h
  cases hr with
  | many hm => cases hm
  | one _ hr => cases hr with | p hr => cases hr; exact .one rfl (.p .lst0)
 ·rw [← h]; exact hr
def hintAt (i : Nat) : List (Nat × D) → Option D
 | [] => none
 | (j, d) :: l => bif Nat.beq j i then some d else hintAt i l
def hinted (hs : List (Nat × D)) (i : Nat) (d : D) : List VP × D := match hintAt i hs with
 | none => ([], d)
 | some d' => ([eqD d d'], d')
theorem hinted_rel {hs : List (Nat × D)} {i : Nat} {d : D} (h : all (hinted hs i d).1) {v} (hr : RelV F γ d v) : RelV F γ (hinted hs i d).2 v := by
 unfold hinted at *
 split
 ·exact hr
 ·rename_i d' hd
  rw [hd] at h
  exact eqD_rel h hr
def condAnd (e : Option Bool) (b : Bool) : Option Bool := match e with
 | none => some b
 | some c => some (c && b)
def setE (E : Env) (dst : Option Tmp) (e : Option Bool) (d : D) : Env := match dst with
 | some t => (t, e, d) :: E
 | none => E
def dstOk (N : Nat) (dst : Option Tmp) : Bool := match dst with
 | some t => Nat.blt t N
 | none => true
def evLoadH (P : Program) (H : List O) (t : TypeId) (h : D) : D → Option (List VP × D)
 | .ref i path => match H[i]? with
  | some o => match o.down path with
   | some (vc, d) => if fitsT P t h.many h.size then some ((d = h) :: vc, h) else none
   | none => none
  | none => none
 | _ => none
def evQH (P : Program) (H : List O) (ev : Operand → Option D) (b : Option D) (op : Op) : Option (List VP × D) := match b, op with
 | some h, .load t x => match ev x with
  | some a => match evLoadH P H t h a with
   | some r => some r
   | none => evLoad P H t a
  | none => none
 | _, _ => evQ P H ev op
theorem evQH_spec {P : Program} {H : List O} {ev : Operand → Option D} {b : Option D} {op : Op} {vc d} (h : evQH P H ev b op = some (vc, d)) (hvc : all vc) : ∃ vc', evQ P H ev op = some (vc', d) ∧ all vc' := by
 unfold evQH at h
 split at h
 ·rename_i t x
  split at h
  ·rename_i a ha
   split at h
   ·rename_i r hr
    simp only [Option.some.injEq] at h
    subst h
    unfold evLoadH at hr
    split at hr
    ·rename_i i path
     split at hr
     ·rename_i o ho
      split at hr
      ·rename_i vc1 d1 hd1
       split at hr
       ·rename_i hfit
        simp only [Option.some.injEq, Prod.mk.injEq] at hr
        obtain ⟨rfl, rfl⟩ := hr
        rw [all_cons] at hvc
        obtain ⟨he, hvc⟩ := hvc
        have he : d1 = _ := he
        subst he
        refine ⟨vc1, ?_, hvc⟩
        simp only [evQ, ha, evLoad, ho, hd1]
        rw [if_pos hfit]
       ·cases hr
      ·cases hr
     ·cases hr
    ·cases hr
   ·exact ⟨vc, by simp only [evQ, ha]; exact h, hvc⟩
  ·cases h
 ·exact ⟨vc, h, hvc⟩
def stepQ (P : Program) (N : Nat) (ops : Array Oper) (H : List O) (hs : List (Nat × D)) (i : Nat) (o : Oper) (E : Env) : Option (List VP × Env) :=
 match execCond ops E o with
 | none => none
 | some e => if dstOk N o.dst then
   match o.op with
   | .pick c x y => match evE E c, evE E x, evE E y with
    | some (.p (.v (.bool bc))), some (.p (.v (.bool bx))), some (.p (.v (.bool b'))) =>
     match needs E e [c], needs E (condAnd e bc) [x], needs E (condAnd e (!bc)) [y] with
     | some n1, some n2, some n3 => some (n1.map (gP e) ++ ((n2 ++ n3) ++ (hinted hs i (vbool (bif bc then bx else b'))).1), setE E o.dst e (hinted hs i (vbool (bif bc then bx else b'))).2)
     | _, _, _ => none
    | _, _, _ => none
   | op => match needs E e op.operands.toList, evQH P H (evE E) (hintAt i hs) op with
    | some n, some (vc, d) => some (n ++ ((vc.map (gP e)) ++ ((hinted hs i d).1.map (gP e))), setE E o.dst e (hinted hs i d).2)
    | _, _ => none
  else none
theorem put_get {dst : Option Tmp} {v : Value} {N : Nat} (hN : a.tmps.size = N) (hd : dstOk N dst = true) {t : Nat} (h : dst = some t) : (a.put dst v).tmps[t]? = some v := by
 subst h
 have : t < a.tmps.size := by rw [hN]; simpa [dstOk, Nat.blt_eq] using hd
 simp [Act.put, this]
theorem put_other {dst : Option Tmp} {v : Value} {t : Nat} (h : dst ≠ some t) : (a.put dst v).tmps[t]? = a.tmps[t]? := by
 cases dst with
 | none => rfl
 | some u =>
  have : u ≠ t := fun e => h (by rw [e])
  simp [Act.put, this]
theorem put_size {dst : Option Tmp} {v : Value} : (a.put dst v).tmps.size = a.tmps.size := by
 cases dst <;> simp [Act.put]
theorem put_defers {dst : Option Tmp} {v : Value} : (a.put dst v).defers = a.defers := by
 cases dst <;> rfl
theorem get_setE {dst : Option Tmp} {e : Option Bool} {d : D} {t : Nat} {g d'} (h : (setE E dst e d).get t = some (g, d')) : (dst = some t ∧ g = e ∧ d' = d) ∨ (dst ≠ some t ∧ E.get t = some (g, d')) := by
 unfold setE at h
 split at h
 ·rename_i u
  simp only [Env.get] at h
  cases hb : Nat.beq u t with
  | true =>
   rw [hb] at h
   simp only [cond_true, Option.some.injEq, Prod.mk.injEq] at h
   exact .inl ⟨by rw [Nat.eq_of_beq_eq_true hb], h.1.symm, h.2.symm⟩
  | false =>
   rw [hb] at h
   refine .inr ⟨fun e => ?_, h⟩
   simp only [Option.some.injEq] at e
   subst e
   simp at hb
 ·exact .inr ⟨by simp, h⟩
theorem sle_put {dst : Option Tmp} {v : Value} {N : Nat} {e : Option Bool} {d : D} (hE : SLE F γ E a) (hN : a.tmps.size = N) (hd : dstOk N dst = true) (h1 : on e → RelV F γ d v) (h2 : ¬ on e → v = undef) :
  SLE F γ (setE E dst e d) (a.put dst v) := by
 intro t g d' h
 rcases get_setE h with ⟨e1, rfl, rfl⟩ | ⟨e1, e2⟩
 ·refine ⟨fun hon => ⟨v, put_get hN hd e1, h1 hon⟩, fun hon => ?_⟩
  rw [put_get hN hd e1, h2 hon]
 ·rw [put_other e1]
  exact hE t g d' e2
theorem stepQ_sound {N : Nat} {ops : Array Oper} {hs : List (Nat × D)} {i : Nat} {o : Oper} {vc E'} (hS : SLH C F γ H w) (hE : SLE F γ E a) (hN : a.tmps.size = N)
  (h : stepQ P N ops H hs i o E = some (vc, E')) (hvc : all vc) :
  ∃ v, ((Region.wanted o (yielded ops a.tmps) = true ∧ ∀ w' : World, Keep w w' → (execOp a.eval o).run P w' = .ok (.value v) w') ∨ (Region.wanted o (yielded ops a.tmps) = false ∧ v = undef)) ∧
   SLE F γ E' (a.put o.dst v) := by
 unfold stepQ at h
 split at h
 ·cases h
 ·rename_i e he
  have hw := wanted_iff hE he
  split at h
  ·rename_i hd
   by_cases hon : on e
   ·have hwt := hw.2 hon
    split at h
    ·rename_i c x y ho
     split at h
     ·rename_i bc bx b' ec ex ey
      split at h
      ·rename_i n1 n2 n3 e1 e2 e3
       simp only [Option.some.injEq, Prod.mk.injEq] at h
       obtain ⟨rfl, rfl⟩ := h
       rw [all_append, all_append, all_append] at hvc
       obtain ⟨v1, ⟨v2, v3⟩, v4⟩ := hvc
       have hc := v_val (needs_spec hS.glob hE hon e1 (all_gP hon v1) c (by simp) _ ec)
       have hq : on (condAnd e bc) ↔ bc = true := by
        cases e with
        | none => simp [condAnd, on]
        | some c => have : c = true := hon; subst this; simp [condAnd, on]
       have hq' : on (condAnd e (!bc)) ↔ bc = false := by
        cases e with
        | none => simp [condAnd, on]
        | some c => have : c = true := hon; subst this; simp [condAnd, on]
       refine ⟨.bool (bif bc then bx else b'), .inl ⟨hwt, fun w' _ => ?_⟩, sle_put hE hN hd (fun _ => hinted_rel v4 relV_bool) (fun hn => absurd hon hn)⟩
       simp only [execOp, ho, hc]
       cases bc with
       | true =>
        have hx := v_val (needs_spec hS.glob hE (hq.2 rfl) e2 v2 x (by simp) _ ex)
        simp [asBool, hx]
       | false =>
        have hy := v_val (needs_spec hS.glob hE (hq'.2 rfl) e3 v3 y (by simp) _ ey)
        simp [asBool, hy]
      ·cases h
     ·cases h
    ·split at h
     ·rename_i n vc' d hn hq
      simp only [Option.some.injEq, Prod.mk.injEq] at h
      obtain ⟨rfl, rfl⟩ := h
      rw [all_append, all_append] at hvc
      obtain ⟨v1, v2, v3⟩ := hvc
      obtain ⟨vc2, hq, v2⟩ := evQH_spec hq (all_gP hon v2)
      obtain ⟨v, g1, g2⟩ := evQ_sound hS (fun x hx d hd => needs_spec hS.glob hE hon hn v1 x (by simpa using hx) d hd) hq v2
      exact ⟨v, .inl ⟨hwt, g2⟩, sle_put hE hN hd (fun _ => hinted_rel (all_gP hon v3) g1) (fun hn => absurd hon hn)⟩
     ·cases h
   ·have hwf : Region.wanted o (yielded ops a.tmps) = false := by
     cases hh : Region.wanted o (yielded ops a.tmps) with
     | true => exact absurd (hw.1 hh) hon
     | false => rfl
    have key : ∀ d, SLE F γ (setE E o.dst e d) (a.put o.dst undef) := fun d => sle_put hE hN hd (fun hn => absurd hn hon) (fun _ => rfl)
    refine ⟨undef, .inr ⟨hwf, rfl⟩, ?_⟩
    split at h
    ·split at h
     ·split at h
      ·simp only [Option.some.injEq, Prod.mk.injEq] at h
       rw [← h.2]; exact key _
      ·cases h
     ·cases h
    ·split at h
     ·simp only [Option.some.injEq, Prod.mk.injEq] at h
      rw [← h.2]; exact key _
     ·cases h
  ·cases h
/-! ### Regions -/
def proj (E : Env) : List Nat → Option Env
 | [] => some []
 | t :: l => match E.get t, proj E l with
  | some (none, d), some r => some ((t, none, d) :: r)
  | _, _ => none
theorem proj_get : ∀ {l : List Nat} {E E' : Env} {t : Nat} {g d}, proj E l = some E' → E'.get t = some (g, d) → E.get t = some (g, d)
 | [], _, _, _, _, _, h, hg => by simp only [proj, Option.some.injEq] at h; subst h; cases hg
 | u :: l, E, E', t, g, d, h, hg => by
  simp only [proj] at h
  split at h
  ·rename_i d0 r h1 h2
   simp only [Option.some.injEq] at h
   subst h
   simp only [Env.get] at hg
   cases hb : Nat.beq u t with
   | true =>
    rw [hb] at hg
    simp only [cond_true, Option.some.injEq, Prod.mk.injEq] at hg
    obtain ⟨rfl, rfl⟩ := hg
    rw [← Nat.eq_of_beq_eq_true hb]; exact h1
   | false => rw [hb] at hg; exact proj_get h2 hg
  ·cases h
theorem sle_proj {l : List Nat} {E' : Env} (h : proj E l = some E') (hE : SLE F γ E a) : SLE F γ E' a := fun t g d hg => hE t g d (proj_get h hg)
end
section
variable {C : Cx} {E E' : Env} {H : List O} {a : Act} {w : World} {Q : Exit → Act → World → Prop} {id : Nat} {ops : List Oper} {hs : List (Nat × D)} {ts : List Nat} {vc : List VP}
theorem SL.mk' {F γ} (h1 : SLH C F γ H w) (h2 : SLE F γ E a) (h3 : a.tmps.size = C.N) (h4 : a.defers = C.D) : SL C E H a w := ⟨⟨F, γ, h1, h2⟩, h3, h4⟩
end
end Go.Eng
namespace Go.Eng
open Go.RowKit
section
variable {P : Program} {C : Cx} {F : PHeap} {γ : Gm} {H : List O} {w : World}
/-! ### What a new block, a write, the end of an object do to the assertion -/
theorem RelO.mono {F F' : PHeap} {γ γ' : Gm} (hF : ∀ b c, F b = some c → F' b = some c) (hγ : ∀ (i : Nat) g, γ i = some g → γ' i = some g) {o g} (h : RelO F γ w o g) : RelO F' γ' w o g := by
 cases h with
 | dead => exact .dead
 | map h1 h2 h3 => exact .map h1 h2 ⟨h3.1, fun ks hk => (h3.2 ks hk).imp id fun ⟨i, v, p, q1, q2, q3, q4⟩ => ⟨i, v, p, q1, q2, q3, q4.mono hF⟩⟩
 | box h1 h2 => exact .box h1 (h2.mono hF hγ)
 | arr0 => exact .arr0
 | arr h1 h2 h3 h4 h5 => exact .arr h1 h2 h3 h4 fun i hi => (h5 i hi).mono hF hγ
theorem sub_lt (hS : SLH C F γ H w) {b c} (h : F b = some c) : b < w.heap.size := by
 obtain ⟨T, fz, h1⟩ := hS.sub b c h
 exact (Array.getElem?_eq_some_iff.1 h1).1
structure Grew (w w' : World) : Prop where
 os : w'.os = w.os
 tape : w'.tape = w.tape
 output : w'.output = w.output
 size : w.heap.size ≤ w'.heap.size
 block : ∀ k, k < w.heap.size → w'.heap[k]? = w.heap[k]?
theorem Grew.refl (w : World) : Grew w w := ⟨rfl, rfl, rfl, Nat.le_refl _, fun _ _ => rfl⟩
theorem Grew.trans {a b c : World} (h : Grew a b) (k : Grew b c) : Grew a c :=
 ⟨k.os.trans h.os, k.tape.trans h.tape, k.output.trans h.output, Nat.le_trans h.size k.size, fun i hi => (k.block i (Nat.lt_of_lt_of_le hi h.size)).trans (h.block i hi)⟩
theorem grew_alloc (w : World) (o : Obj) : Grew w (w.alloc o) := ⟨rfl, rfl, rfl, by simp, fun k hk => heap_alloc_old w o hk⟩
theorem grew_drew (w : World) : Grew w w.drew := ⟨rfl, rfl, rfl, Nat.le_refl _, fun _ _ => rfl⟩
theorem SLH.grew {F' : PHeap} {w' : World} (h : SLH C F γ H w) (hg : Grew w w') (hF : ∀ b, b < w.heap.size → F' b = F b) (hs : Sub F' w') : SLH C F' γ H w' where
 sub := hs
 base := C.B.up (fun b c hb => by rw [hF b (sub_lt h hb)]; exact hb) (fun _ _ x => x) h.base
 glob := h.glob.mono fun b c hb => by rw [hF b (sub_lt h hb)]; exact hb
 ext := fun b hb => (hF b (Nat.lt_of_lt_of_le hb h.grows)).trans (h.ext b hb)
 top := h.top
 free := h.free
 obj := fun i o g ho hgi => by
  have h1 := h.obj i o g ho hgi
  cases hal : o.alive with
  | false => cases o <;> first | exact .dead | (cases hal; done) | (cases h1; done)
  | true =>
   refine (h1.mono (fun b c hb => by rw [hF b (sub_lt h hb)]; exact hb) (fun _ _ x => x)).same fun b hb => ?_
   exact hg.block b (h.apart i o g b ho hal hgi hb).2.1
 apart := fun i o g b ho ha hgi hb => by
  obtain ⟨h1, h2, h3⟩ := h.apart i o g b ho ha hgi hb
  exact ⟨by rw [hF b h2]; exact h1, Nat.lt_of_lt_of_le h2 hg.size, h3⟩
 given := h.given
 dis := h.dis
 os := hg.os.trans h.os
 tape := hg.tape.trans h.tape
 output := hg.output.trans h.output
 grows := Nat.le_trans h.grows hg.size
 block := fun k hk hx => (hg.block k (Nat.lt_of_lt_of_le hk h.grows)).trans (h.block k hk hx)
 raw := fun b o hb => by
  obtain ⟨h1, h2, h3⟩ := h.raw b o hb
  have lt := (Array.getElem?_eq_some_iff.1 h1).1
  exact ⟨(hg.block b lt).trans h1, (by rw [hF b lt]; exact h2), h3⟩
 live := h.live
theorem sub_grew (hS : SLH C F γ H w) {w' : World} (hg : Grew w w') : Sub F w' := fun b c hb => by
 obtain ⟨T, fz, h1⟩ := hS.sub b c hb
 exact ⟨T, fz, by rw [hg.block b (sub_lt hS hb)]; exact h1⟩
def putH : List O → Nat → O → List O
 | [], 0, o => [o]
 | [], n + 1, o => .free :: putH [] n o
 | _ :: l, 0, o => o :: l
 | x :: l, n + 1, o => x :: putH l n o
abbrev Ups := List (Nat × O)
def applyU (H : List O) : Ups → List O
 | [] => H
 | (i, o) :: u => applyU (putH H i o) u
theorem putH_set : ∀ {H : List O} {i : Nat} {o : O}, i < H.length → putH H i o = H.set i o
 | _ :: _, 0, _, _ => rfl
 | x :: l, i + 1, o, h => by
  simp only [putH, List.set_cons_succ]
  rw [putH_set (by simpa using h)]
 | [], i, _, h => by simp at h
def isFree (H : List O) (n : Nat) : Bool := match H[n]? with
 | none => true
 | some .free => true
 | _ => false
theorem putH_get : ∀ {H : List O} {n j : Nat} {o x : O}, (putH H n o)[j]? = some x → (j = n ∧ x = o) ∨ (j ≠ n ∧ (H[j]? = some x ∨ (H.length ≤ j ∧ x = .free)))
 | [], 0, 0, o, x, h => by simp [putH] at h; exact .inl ⟨rfl, h.symm⟩
 | [], 0, j + 1, o, x, h => by simp [putH] at h
 | [], n + 1, 0, o, x, h => by simp [putH] at h; exact .inr ⟨by omega, .inr ⟨by simp, h.symm⟩⟩
 | [], n + 1, j + 1, o, x, h => by
  simp only [putH, List.getElem?_cons_succ] at h
  rcases putH_get h with ⟨h1, h2⟩ | ⟨h1, h2⟩
  ·exact .inl ⟨by omega, h2⟩
  ·refine .inr ⟨by omega, .inr ?_⟩
   rcases h2 with h2 | ⟨_, h2⟩
   ·simp at h2
   ·exact ⟨by simp, h2⟩
 | y :: l, 0, 0, o, x, h => by simp [putH] at h; exact .inl ⟨rfl, h.symm⟩
 | y :: l, 0, j + 1, o, x, h => .inr ⟨by omega, .inl (by simpa [putH] using h)⟩
 | y :: l, n + 1, 0, o, x, h => .inr ⟨by omega, .inl (by simpa [putH] using h)⟩
 | y :: l, n + 1, j + 1, o, x, h => by
  simp only [putH, List.getElem?_cons_succ] at h
  rcases putH_get h with ⟨h1, h2⟩ | ⟨h1, h2⟩
  ·exact .inl ⟨by omega, h2⟩
  ·refine .inr ⟨by omega, ?_⟩
   rcases h2 with h2 | ⟨h2, h3⟩
   ·exact .inl (by simpa using h2)
   ·exact .inr ⟨by simp; omega, h3⟩
theorem putH_len : ∀ {H : List O} {n : Nat} {o : O}, H.length ≤ (putH H n o).length ∧ n < (putH H n o).length
 | [], 0, o => by simp [putH]
 | [], n + 1, o => by have := putH_len (H := []) (n := n) (o := o); simp [putH]; omega
 | _ :: l, 0, o => by simp [putH]
 | _ :: l, n + 1, o => by have := putH_len (H := l) (n := n) (o := o); simp [putH]; omega
theorem isFree_none (h : SLH C F γ H w) {n : Nat} (hf : isFree H n = true) : γ n = none := by
 unfold isFree at hf
 split at hf
 ·rename_i e
  exact h.top n ((Nat.lt_or_ge n H.length).elim (fun h' => by rw [List.getElem?_eq_getElem h'] at e; cases e) id)
 ·rename_i e; exact h.free n e
 ·cases hf
theorem upd_self {n : Nat} {g : Value} : updG γ n g n = some g := by simp [updG]
theorem upd_ne {n i : Nat} {g : Value} (h : i ≠ n) : updG γ n g i = γ i := by simp [updG, h]
theorem upd_old {n : Nat} {g : Value} (hn : γ n = none) : ∀ (i : Nat) x, γ i = some x → updG γ n g i = some x := by
 intro i x h
 by_cases e : i = n
 ·subst e; rw [hn] at h; cases h
 ·rw [upd_ne e]; exact h
theorem SLH.push {w' : World} {o : O} {g : Value} {n : Nat} (h : SLH C F γ H w) (hn : isFree H n = true) (hnf : o ≠ .free) (hg : Grew w w') (hb : ∀ b, blk g = some b → w.heap.size ≤ b ∧ b < w'.heap.size) (ho : RelO F (updG γ n g) w' o g) : SLH C F (updG γ n g) (putH H n o) w' := by
 have h' := h.grew hg (fun _ _ => rfl) (sub_grew h hg)
 have hγ := isFree_none h hn
 have hfree : ∀ b, w.heap.size ≤ b → F b = none := fun b hb => by
  cases hf : F b with
  | none => rfl
  | some c => have := sub_lt h hf; omega
 -- where an object and its value come from
 have cls : ∀ {i : Nat} {o' : O} {g' : Value}, (putH H n o)[i]? = some o' → updG γ n g i = some g' → (i = n ∧ o' = o ∧ g' = g) ∨ (i ≠ n ∧ H[i]? = some o' ∧ γ i = some g') := by
  intro i o' g' h1 h2
  rcases putH_get h1 with ⟨rfl, rfl⟩ | ⟨e, h1⟩
  ·rw [upd_self] at h2; cases h2; exact .inl ⟨rfl, rfl, rfl⟩
  ·rw [upd_ne e] at h2
   rcases h1 with h1 | ⟨h1, _⟩
   ·exact .inr ⟨e, h1, h2⟩
   ·rw [h.top i h1] at h2; cases h2
 exact {
  sub := h'.sub
  base := C.B.up (fun _ _ x => x) (upd_old hγ) h.base
  glob := h.glob
  ext := h'.ext
  top := fun i hi => by
   have := putH_len (H := H) (n := n) (o := o)
   rw [upd_ne (by omega)]
   exact h.top i (by omega)
  free := fun i hi => by
   rcases putH_get hi with ⟨_, e⟩ | ⟨e, h1⟩
   ·exact absurd e.symm hnf
   ·rw [upd_ne e]
    rcases h1 with h1 | ⟨h1, _⟩
    ·exact h.free i h1
    ·exact h.top i h1
  obj := fun i o' g' h1 h2 => by
   rcases cls h1 h2 with ⟨rfl, rfl, rfl⟩ | ⟨_, h1, h2⟩
   ·exact ho
   ·exact (h'.obj i o' g' h1 h2).mono (fun _ _ x => x) (upd_old hγ)
  apart := fun i o' g' b h1 ha h2 hbb => by
   rcases cls h1 h2 with ⟨rfl, rfl, rfl⟩ | ⟨_, h1, h2⟩
   ·obtain ⟨k1, k2⟩ := hb b hbb
    exact ⟨hfree b k1, k2, fun _ => Nat.le_trans h.grows k1⟩
   ·exact h'.apart i o' g' b h1 ha h2 hbb
  given := fun i hi => by
   rw [← h'.given i hi]
   refine upd_ne fun e => ?_
   subst e
   have := h'.given i hi
   rw [hγ, List.getElem?_eq_getElem hi] at this
   cases this
  dis := fun i j o1 o2 g1 g2 b h1 h2 hij a1 a2 k1 k2 hb1 hb2 => by
   have old : ∀ (k : Nat) ok gk, H[k]? = some ok → γ k = some gk → ok.alive = true → ∀ bb, blk gk = some bb → bb < w.heap.size := fun k ok gk e1 e2 e3 bb e4 => (h.apart k ok gk bb e1 e3 e2 e4).2.1
   rcases cls h1 k1 with ⟨rfl, rfl, rfl⟩ | ⟨_, p1, q1⟩
   ·rcases cls h2 k2 with ⟨e, _, _⟩ | ⟨_, p2, q2⟩
    ·exact hij e.symm
    ·have r1 := old _ _ _ p2 q2 a2 b hb2
     have r2 := (hb b hb1).1
     omega
   ·rcases cls h2 k2 with ⟨rfl, rfl, rfl⟩ | ⟨_, p2, q2⟩
    ·have r1 := old _ _ _ p1 q1 a1 b hb1
     have r2 := (hb b hb2).1
     omega
    ·exact h'.dis i j _ _ _ _ b p1 p2 hij a1 a2 q1 q2 hb1 hb2
  os := h'.os
  tape := h'.tape
  output := h'.output
  grows := h'.grows
  block := h'.block
  raw := fun b x hx => by
   obtain ⟨k1, k2, k3⟩ := h'.raw b x hx
   refine ⟨k1, k2, fun i o' g' e1 e2 e3 => ?_⟩
   rcases cls e1 e3 with ⟨rfl, rfl, rfl⟩ | ⟨_, p1, p2⟩
   ·intro e
    have q1 := (hb b e).1
    have q2 := (Array.getElem?_eq_some_iff.1 (h.raw b x hx).1).1
    omega
   ·exact k3 i o' g' p1 e2 p2
  live := fun i o' e1 e2 => by
   rcases putH_get e1 with ⟨rfl, rfl⟩ | ⟨e, h1⟩
   ·exact ⟨g, upd_self⟩
   ·rcases h1 with h1 | ⟨_, h2⟩
    ·obtain ⟨g1, hg1⟩ := h.live i o' h1 e2
     exact ⟨g1, by rw [upd_ne e]; exact hg1⟩
    ·subst h2; cases e2 }
theorem set_get {l : List O} {i j : Nat} {x y : O} (h : (l.set i x)[j]? = some y) : (j = i ∧ y = x ∧ i < l.length) ∨ (j ≠ i ∧ l[j]? = some y) := by
 rw [List.getElem?_set] at h
 split at h
 ·rename_i e
  split at h
  ·rename_i hl
   simp only [Option.some.injEq] at h
   exact .inl ⟨e.symm, h.symm, hl⟩
  ·cases h
 ·rename_i e
  exact .inr ⟨fun h => e h.symm, h⟩
theorem SLH.write {w' : World} {i b : Nat} {o o' : O} {g : Value} (h : SLH C F γ H w) (hnf : o' ≠ .free) (hi : H[i]? = some o) (ha : o.alive = true) (hgi : γ i = some g) (hb : blk g = some b)
  (h1 : w'.os = w.os) (h2 : w'.tape = w.tape) (h3 : w'.output = w.output) (h4 : w'.heap.size = w.heap.size) (h5 : ∀ k, k ≠ b → w'.heap[k]? = w.heap[k]?) (ho : RelO F γ w' o' g) : SLH C F γ (H.set i o') w' := by
 obtain ⟨a1, a2, a3⟩ := h.apart i o g b hi ha hgi hb
 exact {
  sub := fun k c hk => by
   obtain ⟨T, fz, e⟩ := h.sub k c hk
   exact ⟨T, fz, by rw [h5 k (fun e => by rw [e, a1] at hk; cases hk)]; exact e⟩
  base := h.base
  glob := h.glob
  ext := h.ext
  top := fun j hj => h.top j (by simpa using hj)
  free := fun j hj => by
   rcases set_get hj with ⟨_, e, _⟩ | ⟨_, e⟩
   ·exact absurd e.symm hnf
   ·exact h.free j e
  obj := fun j oj gj e1 e2 => by
   rcases set_get e1 with ⟨rfl, rfl, _⟩ | ⟨hne, e1⟩
   ·rw [hgi] at e2; cases e2; exact ho
   ·have hj := h.obj j oj gj e1 e2
    cases hal : oj.alive with
    | false => cases oj <;> first | exact .dead | (cases hal; done) | (cases hj; done)
    | true => exact hj.same fun bb hbb => h5 bb fun e => h.dis j i oj o gj g bb e1 hi hne hal ha e2 hgi hbb (by rw [e]; exact hb)
  apart := fun j oj gj bb e1 e2 e3 e4 => by
   rw [h4]
   rcases set_get e1 with ⟨rfl, rfl, _⟩ | ⟨hne, e1⟩
   ·exact h.apart j o gj bb hi ha e3 e4
   ·exact h.apart j oj gj bb e1 e2 e3 e4
  given := h.given
  dis := fun j k oj ok gj gk bb e1 e2 hjk c1 c2 d1 d2 f1 => by
   rcases set_get e1 with ⟨q1, _, _⟩ | ⟨_, p1⟩
   ·rcases set_get e2 with ⟨q2, _, _⟩ | ⟨_, p2⟩
    ·exact absurd (q1.trans q2.symm) hjk
    ·exact h.dis j k o ok gj gk bb (by rw [q1]; exact hi) p2 hjk ha c2 d1 d2 f1
   ·rcases set_get e2 with ⟨q2, _, _⟩ | ⟨_, p2⟩
    ·exact h.dis j k oj o gj gk bb p1 (by rw [q2]; exact hi) hjk c1 ha d1 d2 f1
    ·exact h.dis j k oj ok gj gk bb p1 p2 hjk c1 c2 d1 d2 f1
  os := h1.trans h.os
  tape := h2.trans h.tape
  output := h3.trans h.output
  grows := by rw [h4]; exact h.grows
  block := fun k hk hx => by
   rw [h5 k]
   ·exact h.block k hk hx
   ·intro e
    subst e
    by_cases hlt : i < C.γ0.length
    ·have := h.given i hlt
     rw [hgi] at this
     exact hx g (List.mem_of_getElem? this.symm) hb
    ·have := a3 (by omega); omega
  raw := fun k x hk => by
   obtain ⟨q1, q2, q3⟩ := h.raw k x hk
   refine ⟨?_, q2, fun j oj gj e1 e2 e3 => ?_⟩
   ·rw [h5 k]
    ·exact q1
    ·rintro rfl
     exact q3 i o g hi ha hgi hb
   ·rcases set_get e1 with ⟨rfl, rfl, _⟩ | ⟨hne, e1⟩
    ·exact q3 j o gj hi ha e3
    ·exact q3 j oj gj e1 e2 e3
  live := fun j oj e1 e2 => by
   rcases set_get e1 with ⟨rfl, rfl, _⟩ | ⟨hne, e1⟩
   ·exact ⟨g, hgi⟩
   ·exact h.live j oj e1 e2 }
theorem SLH.kill (h : SLH C F γ H w) (i : Nat) : SLH C F γ (H.set i .dead) w where
 sub := h.sub
 base := h.base
 glob := h.glob
 ext := h.ext
 top := fun j hj => h.top j (by simpa using hj)
 free := fun j hj => by
  rcases set_get hj with ⟨_, e, _⟩ | ⟨_, e⟩
  ·cases e
  ·exact h.free j e
 obj := fun j oj gj e1 e2 => by
  rcases set_get e1 with ⟨rfl, rfl, _⟩ | ⟨_, e1⟩
  ·exact .dead
  ·exact h.obj j oj gj e1 e2
 apart := fun j oj gj bb e1 e2 e3 e4 => by
  rcases set_get e1 with ⟨rfl, rfl, _⟩ | ⟨_, e1⟩
  ·cases e2
  ·exact h.apart j oj gj bb e1 e2 e3 e4
 given := h.given
 dis := fun j k oj ok gj gk bb e1 e2 hjk c1 c2 d1 d2 f1 => by
  rcases set_get e1 with ⟨rfl, rfl, _⟩ | ⟨_, e1⟩
  ·cases c1
  ·rcases set_get e2 with ⟨rfl, rfl, _⟩ | ⟨_, e2⟩
   ·cases c2
   ·exact h.dis j k oj ok gj gk bb e1 e2 hjk c1 c2 d1 d2 f1
 os := h.os
 tape := h.tape
 output := h.output
 grows := h.grows
 block := h.block
 raw := fun k x hk => by
  obtain ⟨q1, q2, q3⟩ := h.raw k x hk
  refine ⟨q1, q2, fun j oj gj e1 e2 e3 => ?_⟩
  rcases set_get e1 with ⟨rfl, rfl, _⟩ | ⟨_, e1⟩
  ·cases e2
  ·exact q3 j oj gj e1 e2 e3
 live := fun j oj e1 e2 => by
  rcases set_get e1 with ⟨rfl, rfl, _⟩ | ⟨_, e1⟩
  ·cases e2
  ·exact h.live j oj e1 e2
end
end Go.Eng
namespace Go.Eng
open Go.RowKit
section
variable {P : Program} {C : Cx} {F : PHeap} {γ : Gm} {H : List O} {w : World} {tg : Nat}
def Leaves (P : Program) (C : Cx) (F : PHeap) (γ : Gm) (w : World) (s : Sem Next) (d : Option D) (H' : List O) : Prop :=
 ∃ F' γ' w' r, s.run P w = .ok r w' ∧ SLH C F' γ' H' w' ∧ (∀ b c, F b = some c → F' b = some c) ∧ (∀ (i : Nat) g, γ i = some g → γ' i = some g) ∧
  (match d with
   | none => r = .skip
   | some d => ∃ v, r = .value v ∧ RelV F' γ' d v)
theorem Leaves.val {s : Sem Value} {d H'} {F' : PHeap} {γ' : Gm} {w' : World} {v : Value} (h1 : s.run P w = .ok v w') (h2 : SLH C F' γ' H' w') (h3 : ∀ b c, F b = some c → F' b = some c) (h4 : ∀ (i : Nat) g, γ i = some g → γ' i = some g) (h5 : RelV F' γ' d v) :
  Leaves P C F γ w (do pure (Next.value (← s))) (some d) H' := ⟨F', γ', w', .value v, by simp [h1], h2, h3, h4, v, rfl, h5⟩
theorem run_newVar (t : TypeId) (v : Value) (w : World) : (newVar t v).run P w = .ok ⟨w.heap.size, 0, none⟩ (w.alloc (.cells v.cells t)) := by
 simp [newVar, newRow]
theorem new_box {t : TypeId} {d : D} {v : Value} (hS : SLH C F γ H w) (hn : isFree H tg = true) (hd : RelD F γ d v.cells.toList) :
  SLH C F (updG γ tg (.pointer (some ⟨w.heap.size, 0, none⟩))) (putH H tg (.box d)) (w.alloc (.cells v.cells t)) ∧ RelV F (updG γ tg (.pointer (some ⟨w.heap.size, 0, none⟩))) (.ref tg []) (.pointer (some ⟨w.heap.size, 0, none⟩)) := by
 refine ⟨hS.push hn (fun e => by cases e) (grew_alloc w _) (fun b hb => ?_) (.box (heap_alloc_new w _) (hd.mono (fun _ _ x => x) (upd_old (isFree_none hS hn)))), .one rfl (.ref (g := .pointer (some ⟨w.heap.size, 0, none⟩)) ?_ rfl)⟩
 ·simp only [blk, Option.some.injEq] at hb
  subst hb
  exact ⟨Nat.le_refl _, by simp⟩
 ·exact upd_self
def evAlloc (P : Program) (H : List O) (tg : Nat) (t : TypeId) : Option (List VP × Option D × Ups) := match zeroT P t with
 | some z => some ([], some (.ref tg []), [(tg, .box (.p z))])
 | none => none
theorem evAlloc_sound {t : TypeId} {vc d H'} (hS : SLH C F γ H w) (hn : isFree H tg = true) (h : evAlloc P H tg t = some (vc, d, H')) : Leaves P C F γ w (do pure (Next.value (← Instr.alloc t true (.tuple #[])))) d (applyU H H') := by
 unfold evAlloc at h
 split at h
 ·rename_i z hz
  simp only [Option.some.injEq, Prod.mk.injEq] at h
  obtain ⟨_, rfl, rfl⟩ := h
  obtain ⟨v, h1, h2, _⟩ := zeroT_sound (F := F) hz
  obtain ⟨g1, g2⟩ := new_box (t := t) hS hn (.p (γ := γ) h2)
  refine Leaves.val ?_ g1 (fun _ _ x => x) (upd_old (isFree_none hS hn)) g2
  simp only [Instr.alloc, Sem.run_bind, run_zero h1, Result.andThen_ok, run_newVar, Sem.run_pure]
 ·cases h
def evBox (H : List O) (tg : Nat) (d : D) : Option (List VP × Option D × Ups) := if d.isTup then none else some ([], some (.ref tg []), [(tg, .box d)])
theorem evBox_sound {t : TypeId} {x : D} {vx vc d H'} (hS : SLH C F γ H w) (hn : isFree H tg = true) (hx : RelV F γ x vx) (h : evBox H tg x = some (vc, d, H')) : Leaves P C F γ w (do pure (Next.value (← Instr.box t vx))) d (applyU H H') := by
 unfold evBox at h
 split at h
 ·cases h
 ·rename_i ht
  simp only [Option.some.injEq, Prod.mk.injEq] at h
  obtain ⟨_, rfl, rfl⟩ := h
  obtain ⟨g1, g2⟩ := new_box (t := t) hS hn (relV_to_cells hx (by simpa using ht)).1
  refine Leaves.val ?_ g1 (fun _ _ x => x) (upd_old (isFree_none hS hn)) g2
  simp only [Instr.box, Sem.run_bind, run_newVar, Result.andThen_ok, Sem.run_pure]
/-! ### Stores -/
def O.put (new : D) (path : List Step) : O → Option (List VP × O)
 | .box d => (D.put new path d).map fun q => (q.1, .box q.2)
 | .arr e sz n f => match path with
  | [.elt i s] => if s = sz then (if new.size = sz then some ([i < n], .arr e sz n (upd f i new)) else none) else none
  | .elt i s :: r => if s = sz then (D.put new r (f i)).map (fun q => ((i < n) :: q.1, .arr e sz n (upd f i q.2))) else none
  | _ => none
 | .dead => none
 | .free => none
 | .map _ _ => none
def evStore (P : Program) (H : List O) (t : TypeId) (a x : D) : Option (List VP × Option D × Ups) := match a with
 | .ref i path => match H[i]? with
  | some o => match O.put x path o with
   | some (vc, o') => if !x.isTup && (sizeT P t == some x.size) then some (vc, none, [(i, o')]) else none
   | none => none
  | none => none
 | _ => none
theorem oput_free {new : D} {path : List Step} {o o' : O} {vc} (h : O.put new path o = some (vc, o')) : o' ≠ .free := by
 intro e
 subst e
 cases o with
 | free => simp [O.put] at h
 | dead => simp [O.put] at h
 | map => simp [O.put] at h
 | box d => simp [O.put] at h
 | arr e sz n f =>
  simp only [O.put] at h
  split at h
  ·split at h
   ·split at h
    ·simp at h
    ·cases h
   ·cases h
  ·split at h
   ·simp at h
   ·cases h
  ·cases h
theorem oput_alive {new : D} {path : List Step} {o o' : O} {vc} (h : O.put new path o = some (vc, o')) : o.alive = true := by
 cases o <;> first | rfl | cases h
theorem oput_sound {x : D} {cn : List Value} {path : List Step} {o o' : O} {g : Value} {vc} {b : Nat} (hn : RelD F γ x cn) (ho : RelO F γ w o g) (h : O.put x path o = some (vc, o')) (hvc : all vc) (hb : blk g = some b) :
  ∃ c T, w.heap[b]? = some (.cells c T (0, 0)) ∧ offs path + cn.length ≤ c.size ∧ RelO F γ (w.setRow b (splice c.toList (offs path) cn).toArray) o' g := by
 cases ho with
 | dead => cases h
 | map => cases h
 | @box d b' c T h1 h2 =>
  obtain rfl : b' = b := by simpa [blk] using hb
  simp only [O.put] at h
  cases hq : D.put x path d with
  | none => rw [hq] at h; cases h
  | some q =>
   rw [hq] at h
   simp only [Option.map_some, Option.some.injEq, Prod.mk.injEq] at h
   obtain ⟨rfl, rfl⟩ := h
   obtain ⟨g1, g2⟩ := put_sound hn h2 hq hvc
   exact ⟨c, T, h1, by simpa using g2, .box (setRow_heap w _ _ _ _ _ h1) (by simpa using g1)⟩
 | arr0 => cases hb
 | @arr e sz n f b' cap c h1 h2 h3 h4 h5 =>
  obtain rfl : b' = b := by simpa [blk] using hb
  have gen : ∃ i r q, path = .elt i sz :: r ∧ D.put x r (f i) = some q ∧ o' = .arr e sz n (upd f i q.2) ∧ i < n ∧ all q.1 := by
   simp only [O.put] at h
   split at h
   ·rename_i i s
    split at h
    ·rename_i hs
     subst hs
     split at h
     ·rename_i hx
      simp only [Option.some.injEq, Prod.mk.injEq] at h
      obtain ⟨rfl, rfl⟩ := h
      have hi : i < n := hvc
      have k1 := (h5 i hi).length
      have hb1 : i * s + s ≤ n * s := sz_bound hi
      have hb2 : n * s ≤ c.size := by rw [h4]; exact Nat.mul_le_mul_right _ h2
      have hl : ((c.toList.drop (i * s)).take s).length = s := by rw [List.length_take, List.length_drop, Array.length_toList]; omega
      exact ⟨i, [], ([], x), rfl, by simp only [D.put]; rw [if_pos (by rw [hx, ← k1, hl])], rfl, hi, trivial⟩
     ·cases h
    ·cases h
   ·rename_i i s r _
    split at h
    ·rename_i hs
     subst hs
     cases hq : D.put x r (f i) with
     | none => rw [hq] at h; cases h
     | some q =>
      rw [hq] at h
      simp only [Option.map_some, Option.some.injEq, Prod.mk.injEq] at h
      obtain ⟨rfl, rfl⟩ := h
      rw [all_cons] at hvc
      exact ⟨i, r, q, rfl, hq, rfl, hvc.1, hvc.2⟩
    ·cases h
   ·cases h
  obtain ⟨i, r, q, rfl, hq, rfl, hi, hvq⟩ := gen
  have k1 := h5 i hi
  obtain ⟨g1, g2⟩ := put_sound hn k1 hq hvq
  have hb1 : i * sz + sz ≤ n * sz := sz_bound hi
  have hb2 : n * sz ≤ c.size := by rw [h4]; exact Nat.mul_le_mul_right _ h2
  have hl : ((c.toList.drop (i * sz)).take sz).length = sz := by rw [List.length_take, List.length_drop, Array.length_toList]; omega
  rw [hl] at g2
  refine ⟨c, e, h1, by simp only [offs, Step.off]; omega, ?_⟩
  have hsp : (splice c.toList (i * sz + offs r) cn).length = c.toList.length := splice_length (by simp; omega)
  refine .arr (setRow_heap w _ _ _ _ _ h1) h2 h3 (by simp only [offs, Step.off, List.size_toArray, hsp, Array.length_toList]; exact h4) fun j hj => ?_
  simp only [offs, Step.off]
  unfold upd
  by_cases hji : j = i
  ·subst hji
   rw [if_pos rfl]
   have e1 := splice_splice (cs := c.toList) (o := j * sz) (m := sz) (o' := offs r) (cn := cn) (by simp; omega) g2
   have e2 := splice_seg_same (cs := c.toList) (o := j * sz) (cn := splice ((c.toList.drop (j * sz)).take sz) (offs r) cn) (by rw [splice_length (by omega), hl]; simp; omega)
   rw [splice_length (by omega), hl, e1] at e2
   rw [e2]; exact g1
  ·rw [if_neg hji]
   have := splice_seg_other (cs := c.toList) (o := i * sz + offs r) (cn := cn) (by simp; omega) (a := j * sz) (m := sz) (by
    rcases Nat.lt_or_gt_of_ne hji with h | h
    ·have := sz_bound (sz := sz) h; exact .inl (by omega)
    ·have := sz_bound (sz := sz) h; exact .inr (by omega))
   rw [this]; exact h5 j hj
theorem evStore_sound {t : TypeId} {a x : D} {va vx vc d H'} (hS : SLH C F γ H w) (ha : RelV F γ a va) (hx : RelV F γ x vx) (h : evStore P H t a x = some (vc, d, H')) (hvc : all vc) :
  Leaves P C F γ w (do Instr.storeAt t va vx; pure .skip) d (applyU H H') := by
 unfold evStore at h
 split at h
 ·rename_i i path
  split at h
  ·rename_i o ho
   split at h
   ·rename_i vc' o' hp
    split at h
    ·rename_i hc
     simp only [Option.some.injEq, Prod.mk.injEq] at h
     obtain ⟨rfl, rfl, rfl⟩ := h
     simp only [Bool.and_eq_true, Bool.not_eq_true', beq_iff_eq] at hc
     obtain ⟨hcx, _⟩ := relV_to_cells hx hc.1
     cases ha with
     | many hm => cases hm
     | one _ ha =>
      cases ha with
      | @ref _ _ g b hg hb =>
       obtain ⟨c, T, k1, k2, k3⟩ := oput_sound hcx (hS.obj i o g ho hg) hp hvc hb
       have hone := hcx.one
       have hrun := run_storeCells_at P b (offs path) T vx.cells.toList 0 c w k1 (by simpa using k2) hone
       simp only [Nat.add_zero] at hrun
       have hsize : vx.cells.size = x.size := by have := hcx.length; simpa using this
       have eu : applyU H [(i, o')] = H.set i o' := putH_set (List.getElem?_eq_some_iff.1 ho).1
       rw [eu]
       refine ⟨F, γ, _, .skip, ?_, hS.write (oput_free hp) (w' := w.setRow b (splice c.toList (offs path) vx.cells.toList).toArray) ho (oput_alive hp) hg hb rfl rfl rfl (by simp) (fun k hk => setRow_other w b k _ hk) k3, fun _ _ x => x, fun _ _ x => x, rfl⟩
       simp only [Instr.storeAt, Instr.sureAddr, storeVar, Sem.run_bind, Sem.run_pure, Result.andThen_ok, run_sizeT hc.2]
       rw [if_neg (by rw [hsize]; simp)]
       rw [hrun]
       rfl
    ·cases h
   ·cases h
  ·cases h
 ·cases h
/-! ### Slices that are made -/
theorem made_seg {z : Array Value} {n sz : Nat} (hz : z.size = sz) : ∀ i, i < n → ((madeCells z (n * sz)).toList.drop (i * sz)).take sz = z.toList := by
 intro i hi
 have hb := sz_bound (sz := sz) hi
 apply List.ext_getElem?
 intro j
 rw [List.getElem?_take]
 by_cases hj : j < sz
 ·rw [if_pos hj, List.getElem?_drop]
  simp only [madeCells, Array.toList_map, Array.toList_range, List.getElem?_map, Array.getElem?_toList]
  rw [List.getElem?_range (by omega)]
  simp only [Option.map_some]
  have e : (i * sz + j) % z.size = j := by rw [hz, Nat.mul_comm, Nat.mul_add_mod, Nat.mod_eq_of_lt hj]
  rw [e, getElem!_pos z j (by omega)]
  simp [hz, hj]
 ·rw [if_neg hj, List.getElem?_eq_none (by simp; omega)]
def evMake (P : Program) (H : List O) (tg : Nat) (t : TypeId) (l c : D) : Option (List VP × Option D × Ups) :=
 match l.asInt, c.asInt with
 | some (_, l), some (_, c) => match P.underlying t with
  | some (.slice e) => match sizeT P e, zeroT P e, (P.info? e).map (·.bytes) with
   | some sz, some z, some by_ => if z.size = sz then some ([0 ≤ l, l ≤ c, (by_ : Int) * c ≤ 140737488355328, c ≤ 9223372036854775807], some (.own tg), [(tg, .arr e sz l.toNat (fun _ => .p z))]) else none
   | _, _, _ => none
  | _ => none
 | _, _ => none
theorem new_arr {e sz n cap : Nat} {f : Nat → D} {cells : Array Value} (hS : SLH C F γ H w) (hn : isFree H tg = true) (h1 : n ≤ cap) (h2 : cap ≤ maxLen) (h3 : cells.size = cap * sz) (h4 : ∀ i, i < n → RelD F γ (f i) ((cells.toList.drop (i * sz)).take sz)) {w0 : World} (hw : Grew w w0) (hsz : w0.heap.size = w.heap.size) :
  SLH C F (updG γ tg (.slice (some ⟨w.heap.size, 0, none⟩) n cap)) (putH H tg (.arr e sz n f)) (w0.alloc (.cells cells e)) ∧ RelV F (updG γ tg (.slice (some ⟨w.heap.size, 0, none⟩) n cap)) (.own tg) (.slice (some ⟨w.heap.size, 0, none⟩) n cap) := by
 refine ⟨hS.push hn (fun e => by cases e) (hw.trans (grew_alloc w0 _)) (fun b hb => ?_) (.arr (by rw [← hsz]; exact heap_alloc_new w0 _) h1 h2 h3 fun i hi => (h4 i hi).mono (fun _ _ x => x) (upd_old (isFree_none hS hn))), .one rfl (.own ?_ rfl)⟩
 ·simp only [blk, Option.some.injEq] at hb
  subst hb
  exact ⟨Nat.le_refl _, by simp [hsz]⟩
 ·exact upd_self
theorem info_of {e : TypeId} {sz : Nat} {v : Value} (h1 : sizeT P e = some sz) (h2 : (P.info? e).bind (·.zero) = some v) : ∃ i : TypeInfo, P.info? e = some i ∧ i.size = sz ∧ i.zero = some v := by
 unfold sizeT at h1
 cases hi : P.info? e with
 | none => rw [hi] at h1; cases h1
 | some i =>
  rw [hi] at h1 h2
  exact ⟨i, rfl, by simpa using h1, by simpa using h2⟩
theorem evMake_sound {t : TypeId} {l c : D} {vl vc' vc d H'} (hS : SLH C F γ H w) (hn : isFree H tg = true) (hl : RelV F γ l vl) (hc : RelV F γ c vc') (h : evMake P H tg t l c = some (vc, d, H')) (hvc : all vc) :
  Leaves P C F γ w (do pure (Next.value (← Instr.makeSlice t vl vc'))) d (applyU H H') := by
 unfold evMake at h
 split at h
 ·rename_i kl l kc c e1 e2
  have e1 := asInt_val e1 hl
  have e2 := asInt_val e2 hc
  subst e1 e2
  split at h
  ·rename_i e hu
   split at h
   ·rename_i sz z bt hsz hz hb
    split at h
    ·rename_i hzs
     simp only [Option.some.injEq, Prod.mk.injEq] at h
     obtain ⟨rfl, rfl, rfl⟩ := h
     simp only [all] at hvc
     obtain ⟨c1, c2, c3, c4⟩ := hvc
     obtain ⟨zv, z1, z2, z3⟩ := zeroT_sound (F := F) hz
     obtain ⟨i, i1, i2, i3⟩ := info_of hsz z1
     have hb' : i.bytes = bt := by rw [i1] at hb; simpa using hb
     have hzc : zv.cells.size = sz := by have := z2.length; simpa [hzs] using this
     have hr := run_make (P := P) w t e i zv hu i1 i3 kl kc l c c1 c2 (by rw [hb']; omega) c4
     obtain ⟨g1, g2⟩ := new_arr (e := e) (sz := sz) (n := l.toNat) (cap := c.toNat) (f := fun _ => .p z) (cells := madeCells zv.cells (c.toNat * sz)) hS hn (by omega) (by unfold maxLen; omega) (size_madeCells _ _) (fun j hj => by
      rw [made_seg hzc j (by omega)]; exact .p z2) (Grew.refl w) rfl
     rw [i2] at hr
     exact Leaves.val hr g1 (fun _ _ x => x) (upd_old (isFree_none hS hn)) g2
    ·cases h
   ·cases h
  ·cases h
 ·cases h
theorem flat_seg {sz : Nat} : ∀ {vs : List Value}, (∀ v ∈ vs, v.cells.size = sz) → (vs.flatMap fun v => v.cells.toList).length = vs.length * sz ∧ ∀ (i : Nat) v, vs[i]? = some v → ((vs.flatMap fun v => v.cells.toList).drop (i * sz)).take sz = v.cells.toList
 | [], _ => ⟨by simp, fun i v h => by simp at h⟩
 | u :: vs, h => by
  have hu : u.cells.toList.length = sz := by simpa using h u List.mem_cons_self
  obtain ⟨h1, h2⟩ := flat_seg (sz := sz) (vs := vs) fun v hv => h v (List.mem_cons_of_mem _ hv)
  refine ⟨by rw [List.flatMap_cons, List.length_append, h1, hu, List.length_cons, Nat.succ_mul]; omega, fun i v hi => ?_⟩
  rw [List.flatMap_cons]
  cases i with
  | zero =>
   simp only [List.getElem?_cons_zero, Option.some.injEq] at hi
   subst hi
   rw [Nat.zero_mul, List.drop_zero, ← hu, List.take_left]
  | succ i =>
   simp only [List.getElem?_cons_succ] at hi
   rw [← h2 i v hi]
   have e : (i + 1) * sz = u.cells.toList.length + i * sz := by rw [hu, Nat.succ_mul]; omega
   rw [e, List.drop_append, List.drop_eq_nil_of_le (by omega), List.nil_append, Nat.add_sub_cancel_left]
def evBuildSlice (P : Program) (H : List O) (tg : Nat) (t : TypeId) (len : Nat) (ps : List (Nat × D)) : Option (List VP × Option D × Ups) :=
 match P.underlying t with
 | some (.slice e) => match sizeT P e, zeroT P e with
  | some (sz + 1), some _ => if ps.map (·.1) = List.range len ∧ (ps.all fun p => p.2.size == sz + 1) = true ∧ len * (sz + 1) ≤ 2 ^ 24 then
    some ([], some (.own tg), [(tg, .arr e (sz + 1) len (fun j => (ps.map (·.2)).getD j default))])
   else none
  | _, _ => none
 | _ => none
theorem zip_of {α : Type} : ∀ {l : List (Nat × α)} {k : Nat}, l.map (·.1) = List.range' k l.length → l = ((l.map (·.2)).zipIdx k).map fun x => (x.2, x.1)
 | [], _, _ => rfl
 | (i, x) :: l, k, h => by
  simp only [List.map_cons, List.length_cons, List.range'_succ, List.cons.injEq] at h
  simp only [List.map_cons, List.zipIdx_cons]
  rw [h.1]
  congr 1
  exact zip_of h.2
theorem evBuildSlice_sound {t : TypeId} {len : Nat} {parts : Array (Nat × Operand)} {ev : Operand → Option D} {ρ : Operand → Value} {ps vc d H'} (hS : SLH C F γ H w) (hn : isFree H tg = true)
  (hev : ∀ kx ∈ parts.toList, ∀ d, ev kx.2 = some d → RelV F γ d (ρ kx.2)) (hp : evParts ev parts.toList = some ps) (h : evBuildSlice P H tg t len ps = some (vc, d, H')) :
  Leaves P C F γ w (do pure (Next.value (← Instr.buildSlice t len (parts.map fun (i, x) => (i, ρ x))))) d (applyU H H') := by
 unfold evBuildSlice at h
 split at h
 ·rename_i e hu
  split at h
  ·rename_i sz z hsz hz
   split at h
   ·rename_i hc
    obtain ⟨c1, c2, c3⟩ := hc
    simp only [Option.some.injEq, Prod.mk.injEq] at h
    obtain ⟨_, rfl, rfl⟩ := h
    obtain ⟨zv, z1, z2, _⟩ := zeroT_sound (F := F) hz
    obtain ⟨ie, i1, i2, i3⟩ := info_of hsz z1
    obtain ⟨hl, hps⟩ := evParts_spec hev hp
    have hlen : ps.length = len := by have := congrArg List.length c1; simpa using this
    let vs : List Value := parts.toList.map fun kx => ρ kx.2
    have hvlen : vs.length = len := by simp [vs, ← hl, hlen]
    have hfst : parts.toList.map (·.1) = List.range' 0 parts.toList.length := by
     rw [← List.range_eq_range', ← hl, hlen, ← c1]
     apply List.ext_getElem?
     intro i
     rw [List.getElem?_map, List.getElem?_map]
     cases hi : ps[i]? with
     | none =>
      rw [List.getElem?_eq_none (by have := List.getElem?_eq_none_iff.1 hi; omega)]; rfl
     | some q =>
      obtain ⟨x, hx, _⟩ := hps i q.1 q.2 hi
      rw [hx]; rfl
    have hvs : (parts.map fun (i, x) => (i, ρ x)).toList = (vs.zipIdx 0).map fun x => (x.2, x.1) := by
     have := zip_of (l := parts.toList.map fun kx => (kx.1, ρ kx.2)) (k := 0) (by simp only [List.map_map, Function.comp_def, List.length_map]; exact hfst)
     simp only [List.map_map, Function.comp_def] at this
     simp only [Array.toList_map]
     exact this
    have hrel : ∀ (i : Nat) v, vs[i]? = some v → ∃ d, (ps.map (·.2))[i]? = some d ∧ RelD F γ d v.cells.toList ∧ d.size = sz + 1 := by
     intro i v hi
     have hi' : i < ps.length := by have := (List.getElem?_eq_some_iff.1 hi).1; omega
     obtain ⟨x, hx, hr⟩ := hps i ps[i].1 ps[i].2 (List.getElem?_eq_getElem hi')
     simp only [vs, List.getElem?_map, hx, Option.map_some, Option.some.injEq] at hi
     subst hi
     refine ⟨ps[i].2, by rw [List.getElem?_map, List.getElem?_eq_getElem hi']; rfl, hr, ?_⟩
     have := List.all_eq_true.1 c2 ps[i] (List.getElem_mem hi')
     simpa using this
    have hcell : ∀ v ∈ vs, v.cells.size = sz + 1 := by
     intro v hv
     obtain ⟨i, hi, rfl⟩ := List.getElem_of_mem hv
     obtain ⟨d, _, d2, d3⟩ := hrel i _ (List.getElem?_eq_getElem hi)
     have := d2.length; simpa [d3] using this
    obtain ⟨f1, f2⟩ := flat_seg hcell
    by_cases h0 : len = 0
    ·subst h0
     have hnil : parts = #[] := by
      have : parts.toList.length = 0 := by omega
      exact Array.eq_empty_of_size_eq_zero (by simpa using this)
     subst hnil
     obtain ⟨g1, g2⟩ := new_arr (e := e) (sz := sz + 1) (n := 0) (cap := 0) (f := fun j => (ps.map (·.2)).getD j default) (cells := #[]) hS hn (Nat.le_refl _) (by unfold maxLen; omega) (by simp) (fun j hj => by omega) (Grew.refl w) rfl
     refine Leaves.val ?_ g1 (fun _ _ x => x) (upd_old (isFree_none hS hn)) g2
     simp [Instr.buildSlice, run_underlying hu, run_sizeT hsz, Instr.fill, newRow]
     rw [show (Array.map (fun (_ : Nat) => (default : Value)) (Array.range 0)) = #[] from Array.eq_empty_of_size_eq_zero (by simp)]
    ·have hfill := Great.fill_whole (s := sz + 1) (by omega) vs ((Array.range (len * ie.size)).map (zv.cells[· % zv.cells.size]!)) hcell (by simp [hvlen, i2])
     have hr := run_buildSlice (P := P) w t e len (parts.map fun (i, x) => (i, ρ x)) _ ie zv hu i1 i3 (by rw [i2]; show ¬ len * (sz + 1) > 2 ^ 24; omega) (by rw [i2]; intro h; rcases Nat.mul_eq_zero.1 h with h | h <;> omega) (by rw [hvs, i2]; rw [i2] at hfill; exact hfill)
     obtain ⟨g1, g2⟩ := new_arr (e := e) (sz := sz + 1) (n := len) (cap := len) (f := fun j => (ps.map (·.2)).getD j default) (cells := (vs.flatMap fun v => v.cells.toList).toArray) hS hn (Nat.le_refl _) (by
       unfold maxLen
       have : len * 1 ≤ len * (sz + 1) := Nat.mul_le_mul_left _ (by omega)
       omega) (by simp only [List.size_toArray, f1, hvlen]) (fun j hj => by
      have hj' : j < vs.length := by omega
      obtain ⟨dd, d1, d2, _⟩ := hrel j vs[j] (List.getElem?_eq_getElem hj')
      show RelD F γ ((ps.map (·.2)).getD j default) (((vs.flatMap fun v => v.cells.toList).drop (j * (sz + 1))).take (sz + 1))
      rw [f2 j vs[j] (List.getElem?_eq_getElem hj'), List.getD, d1]
      exact d2) (Grew.refl w) rfl
     exact Leaves.val hr g1 (fun _ _ x => x) (upd_old (isFree_none hS hn)) g2
   ·cases h
  ·cases h
 ·cases h
end
end Go.Eng
namespace Go.Eng
open Go.RowKit
section
variable {P : Program} {C : Cx} {F : PHeap} {γ : Gm} {H : List O} {w : World} {tg : Nat}
theorem isFree_dead {k : Nat} (hn : isFree H tg = true) (hk : ∃ o, H[k]? = some o ∧ o.alive = true) : isFree (H.set k .dead) tg = true := by
 obtain ⟨o, h1, h2⟩ := hk
 have hne : k ≠ tg := by
  rintro rfl
  unfold isFree at hn
  rw [h1] at hn
  cases o <;> first | (cases hn; done) | (cases h2; done)
 unfold isFree at hn ⊢
 rw [List.getElem?_set_ne hne]
 exact hn
theorem SLH.renew {w' : World} {i b : Nat} {o o' : O} {g g' : Value} (h : SLH C F γ H w) (hn : isFree H tg = true) (hnf : o' ≠ .free) (hi : H[i]? = some o) (ha : o.alive = true) (hgi : γ i = some g) (hb : blk g = some b) (hm : C.γ0.length ≤ i)
  (h1 : w'.os = w.os) (h2 : w'.tape = w.tape) (h3 : w'.output = w.output) (h4 : w'.heap.size = w.heap.size) (h5 : ∀ k, k ≠ b → w'.heap[k]? = w.heap[k]?) (hb' : blk g' = some b) (ho : RelO F (updG γ tg g') w' o' g') :
  SLH C F (updG γ tg g') (putH (H.set i .dead) tg o') w' := by
 have hw := h.write (o' := .dead) (fun e => by cases e) hi ha hgi hb h1 h2 h3 h4 h5 .dead
 obtain ⟨a1, a2, a3⟩ := h.apart i o g b hi ha hgi hb
 have hγ := isFree_none h hn
 have cls : ∀ {j : Nat} {oj : O} {gj : Value}, (putH (H.set i .dead) tg o')[j]? = some oj → updG γ tg g' j = some gj → (j = tg ∧ oj = o' ∧ gj = g') ∨ (j ≠ tg ∧ (H.set i .dead)[j]? = some oj ∧ γ j = some gj) := by
  intro j oj gj e1 e2
  rcases putH_get e1 with ⟨rfl, rfl⟩ | ⟨e, h1⟩
  ·rw [upd_self] at e2; cases e2; exact .inl ⟨rfl, rfl, rfl⟩
  ·rw [upd_ne e] at e2
   rcases h1 with h1 | ⟨h1, _⟩
   ·exact .inr ⟨e, h1, e2⟩
   ·rw [hw.top j h1] at e2; cases e2
 -- the others are alive elsewhere
 have other : ∀ {j : Nat} {oj : O} {gj : Value}, (H.set i .dead)[j]? = some oj → oj.alive = true → γ j = some gj → blk gj ≠ some b := by
  intro j oj gj p1 c1 p3 f1
  rcases set_get p1 with ⟨x1, x2, _⟩ | ⟨x1, x2⟩
  ·rw [x2] at c1; cases c1
  ·exact h.dis j i oj o gj g b x2 hi x1 c1 ha p3 hgi f1 hb
 exact {
  sub := hw.sub
  base := C.B.up (fun _ _ x => x) (upd_old (isFree_none h hn)) hw.base
  glob := hw.glob
  ext := hw.ext
  top := fun j hj => by
   have := putH_len (H := H.set i .dead) (n := tg) (o := o')
   rw [upd_ne (by omega)]
   exact hw.top j (by omega)
  free := fun j hj => by
   rcases putH_get hj with ⟨_, e⟩ | ⟨e, h1⟩
   ·exact absurd e.symm hnf
   ·rw [upd_ne e]
    rcases h1 with h1 | ⟨h1, _⟩
    ·exact hw.free j h1
    ·exact hw.top j h1
  obj := fun j oj gj e1 e2 => by
   rcases cls e1 e2 with ⟨rfl, rfl, rfl⟩ | ⟨_, p1, p2⟩
   ·exact ho
   ·exact (hw.obj j oj gj p1 p2).mono (fun _ _ x => x) (upd_old hγ)
  apart := fun j oj gj bb e1 e2 e3 e4 => by
   rcases cls e1 e3 with ⟨rfl, rfl, rfl⟩ | ⟨_, p1, p3⟩
   ·rw [hb'] at e4
    cases e4
    exact ⟨a1, by rw [h4]; exact a2, fun _ => a3 hm⟩
   ·exact hw.apart j oj gj bb p1 e2 p3 e4
  given := fun j hj => by
   rw [← hw.given j hj]
   refine upd_ne fun e => ?_
   subst e
   have := hw.given j hj
   rw [hγ, List.getElem?_eq_getElem hj] at this
   cases this
  dis := fun j k oj ok gj gk bb e1 e2 hjk c1 c2 d1 d2 f1 => by
   rcases cls e1 d1 with ⟨rfl, rfl, rfl⟩ | ⟨_, p1, q1⟩
   ·rcases cls e2 d2 with ⟨e, _, _⟩ | ⟨_, p2, q2⟩
    ·exact absurd e.symm hjk
    ·rw [hb'] at f1
     cases f1
     exact other p2 c2 q2
   ·rcases cls e2 d2 with ⟨rfl, rfl, rfl⟩ | ⟨_, p2, q2⟩
    ·rw [hb']
     intro e
     simp only [Option.some.injEq] at e
     subst e
     exact other p1 c1 q1 f1
    ·exact hw.dis j k oj ok gj gk bb p1 p2 hjk c1 c2 q1 q2 f1
  os := hw.os
  tape := hw.tape
  output := hw.output
  grows := hw.grows
  block := hw.block
  raw := fun k x hk => by
   obtain ⟨q1, q2, q3⟩ := hw.raw k x hk
   refine ⟨q1, q2, fun j oj gj e1 e2 e3 => ?_⟩
   rcases cls e1 e3 with ⟨rfl, rfl, rfl⟩ | ⟨_, p1, p2⟩
   ·rw [hb', ← hb]
    exact (h.raw k x hk).2.2 i o g hi ha hgi
   ·exact q3 j oj gj p1 e2 p2
  live := fun j oj e1 e2 => by
   rcases putH_get e1 with ⟨rfl, rfl⟩ | ⟨e, h1⟩
   ·exact ⟨_, upd_self⟩
   ·rcases h1 with h1 | ⟨_, h2⟩
    ·obtain ⟨g1, hg1⟩ := hw.live j oj h1 e2
     exact ⟨g1, by rw [upd_ne e]; exact hg1⟩
    ·subst h2; cases e2 }
def appF {α : Type} (f : Nat → α) (n : Nat) (g : Nat → α) : Nat → α := fun j => if j < n then f j else g (j - n)
def elemsOf (H : List O) : D → Option (Nat × Nat × (Nat → D))
 | .own j => match H[j]? with
  | some (.arr _ sz n f) => some (sz, n, f)
  | _ => none
 | .p (.lst sz n f) => some (sz, n, fun j => .p (f j))
 | _ => none
def isNil : D → Bool
 | .p (.v (.slice none 0 0)) => true
 | _ => false
theorem isNil_val {d : D} {v} (h : isNil d = true) (hr : RelV F γ d v) : v = .slice none 0 0 := by
 unfold isNil at h
 split at h
 ·exact v_val hr
 ·cases h
theorem elems_mem {x : D} {vx : Value} {sz m : Nat} {g : Nat → D} (hS : SLH C F γ H w) (hx : RelV F γ x vx) (h : elemsOf H x = some (sz, m, g)) :
  ∃ ad cap, vx = .slice ad m cap ∧ (m = 0 ∨ ∃ (a : Addr) (news : List Value), ad = some a ∧ news.length = m * sz ∧ (∀ (j : Nat) v, news[j]? = some v → w.cell? (a.add j) = some v) ∧ (∀ i, i < m → RelD F γ (g i) ((news.drop (i * sz)).take sz))) := by
 cases x with
 | own j =>
  simp only [elemsOf] at h
  split at h
  ·rename_i e sz' n' f' ho
   simp only [Option.some.injEq, Prod.mk.injEq] at h
   obtain ⟨rfl, rfl, rfl⟩ := h
   have hO := hS.obj j _ _ ho (own_val hx)
   cases hO with
   | arr0 => exact ⟨_, _, rfl, .inl rfl⟩
   | @arr _ _ _ _ b cap c k1 k2 k3 k4 k5 =>
    have hb : n' * sz' ≤ c.size := by rw [k4]; exact Nat.mul_le_mul_right _ k2
    refine ⟨_, _, rfl, .inr ⟨⟨b, 0, none⟩, (c.toList.drop 0).take (n' * sz'), rfl, len_seg (by omega), cell_at k1 (by omega), fun i hi => ?_⟩⟩
    rw [seg_seg _ _ _ _ _ (sz_bound hi), Nat.zero_add]
    exact k5 i hi
  ·cases h
 | p y =>
  cases y with
  | lst sz' n' f' =>
   simp only [elemsOf, Option.some.injEq, Prod.mk.injEq] at h
   obtain ⟨rfl, rfl, rfl⟩ := h
   cases hx with
   | many hm => cases hm
   | one _ hx =>
    cases hx with
    | p hx =>
     cases hx with
     | lst0 => exact ⟨_, _, rfl, .inl rfl⟩
     | @lst _ _ _ b off cap c k1 k2 k3 k4 =>
      obtain ⟨T, fz, hb⟩ := hS.sub b c k1
      refine ⟨_, _, rfl, .inr ⟨⟨b, off, none⟩, (c.toList.drop off).take (n' * sz'), rfl, len_seg (by omega), cell_at hb (by omega), fun i hi => ?_⟩⟩
      rw [seg_seg _ _ _ _ _ (sz_bound hi)]
      exact .p (k4 i hi)
  | _ => cases h
 | _ => cases h
theorem news_one {sz m : Nat} {g : Nat → D} {news : List Value} (hl : news.length = m * sz) (h : ∀ i, i < m → RelD F γ (g i) ((news.drop (i * sz)).take sz)) : ∀ u ∈ news, u.oneCell' = true :=
 (RelD.vec (γ := γ) hl h).one
theorem app_seg {sz n m : Nat} {f g : Nat → D} {xs news : List Value} (h1 : xs.length = n * sz) (h2 : ∀ i, i < n → RelD F γ (f i) ((xs.drop (i * sz)).take sz)) (h4 : ∀ i, i < m → RelD F γ (g i) ((news.drop (i * sz)).take sz))
  {tl : List Value} (h3 : news.length = m * sz) : ∀ i, i < n + m → RelD F γ (appF f n g i) (((xs ++ news ++ tl).drop (i * sz)).take sz) := by
 intro i hi
 unfold appF
 by_cases hin : i < n
 ·rw [if_pos hin]
  have hb := sz_bound (sz := sz) hin
  have : ((xs ++ news ++ tl).drop (i * sz)).take sz = (xs.drop (i * sz)).take sz := by
   rw [List.append_assoc, List.drop_append_of_le_length (by omega), List.take_append_of_le_length (by rw [List.length_drop]; omega)]
  rw [this]; exact h2 i hin
 ·rw [if_neg hin]
  have hb := sz_bound (sz := sz) (show i - n < m by omega)
  have e : i * sz = xs.length + (i - n) * sz := by rw [h1, ← Nat.add_mul]; congr 1; omega
  have : ((xs ++ news ++ tl).drop (i * sz)).take sz = (news.drop ((i - n) * sz)).take sz := by
   rw [List.append_assoc, e, List.drop_append, List.drop_eq_nil_of_le (by omega), List.nil_append, Nat.add_sub_cancel_left, List.drop_append_of_le_length (by omega), List.take_append_of_le_length (by rw [List.length_drop]; omega)]
  rw [this]; exact h4 (i - n) (by omega)
theorem run_append_zero {t ty e : TypeId} {i : TypeInfo} (ht : P.underlying t = some (.slice e)) (hi : P.info? e = some i) {ad xa : Option Addr} {n cap xc : Nat} (hc : n ≤ cap) (w : World) :
  (Builtin.append_ #[t, t] ty #[.slice ad n cap, .slice xa 0 xc]).run P w = .ok (.slice ad n cap) w := by
 have hl : ∀ a : Addr, (loadCells a 0).run P w = .ok #[] w := fun a => by simp [loadCells, loadCellsFrom]
 cases xa <;> cases ad <;> simp [Builtin.append_, run_underlying ht, sizeOf, typeInfo, hi, Builtin.lenOf, hc, Builtin.firstCells, hl, storeCells]
def headOf (H : List O) (m0 : Nat) (e sz : Nat) : D → Option (Nat × (Nat → D) × Ups)
 | .own i => match H[i]? with
  | some (.arr e' sz' n f) => if e' = e ∧ sz' = sz ∧ m0 ≤ i then some (n, f, [(i, .dead)]) else none
  | _ => none
 | d => if isNil d then some (0, fun _ => default, []) else none
def evAppend (P : Program) (m0 : Nat) (H : List O) (tg : Nat) (t : TypeId) (s x : D) : Option (List VP × Option D × Ups) :=
 match P.underlying t with
 | some (.slice e) => match sizeT P e, zeroT P e, (P.info? e).map (·.bytes) with
  | some sz, some z, some (bt + 1) => if z.size = sz then match headOf H m0 e sz s with
   | some (n, f, H1) => if isNil x then some ([(n + 0) * (bt + 1) ≤ 140737488355328], some (.own tg), H1 ++ [(tg, .arr e sz (n + 0) (appF f n (fun _ => default)))]) else
    match elemsOf H x with
    | some (sz', m, g) => if sz' = sz then some ([(n + m) * (bt + 1) ≤ 140737488355328], some (.own tg), H1 ++ [(tg, .arr e sz (n + m) (appF f n g))]) else none
    | none => none
   | none => none
   else none
  | _, _, _ => none
 | _ => none
theorem size_zc (z : Array Value) (n : Nat) : (Builtin.zeroCells z n).size = n * z.size := by simp [Builtin.zeroCells]
theorem append_nil {t ty e sz bt m : Nat} {i : TypeInfo} {zv : Value} {g : Nat → D} {xa : Option Addr} {xc : Nat} {f : Nat → D} (hS : SLH C F γ H w) (hn : isFree H tg = true)
  (ht : P.underlying t = some (.slice e)) (hi : P.info? e = some i) (hz : i.zero = some zv) (his : i.size = sz) (hib : i.bytes = bt + 1) (hzs : zv.cells.size = sz) (hb : (0 + m) * (bt + 1) ≤ 140737488355328)
  (hm : m = 0 ∨ ∃ (a : Addr) (news : List Value), xa = some a ∧ news.length = m * sz ∧ (∀ (j : Nat) v, news[j]? = some v → w.cell? (a.add j) = some v) ∧ (∀ i, i < m → RelD F γ (g i) ((news.drop (i * sz)).take sz))) :
  Leaves P C F γ w (do pure (Next.value (← Builtin.append_ #[t, t] ty #[.slice none 0 0, .slice xa m xc]))) (some (.own tg)) (putH H tg (.arr e sz (0 + m) (appF f 0 g))) := by
 rcases Nat.eq_zero_or_pos m with rfl | hpos
 ·have hr := run_append_zero (P := P) (ty := ty) ht hi (ad := none) (xa := xa) (n := 0) (cap := 0) (xc := xc) (Nat.le_refl _) w
  refine Leaves.val hr (hS.push hn (fun e => by cases e) (Grew.refl w) (fun b hb => by cases hb) .arr0) (fun _ _ x => x) (upd_old (isFree_none hS hn)) (.one rfl (.own (g := .slice none 0 0) upd_self rfl))
 ·rcases hm with rfl | ⟨a, news, rfl, h1, h2, h3⟩
  ·omega
  ·have hmb : m ≤ 140737488355328 := by
    have : (0 + m) * 1 ≤ (0 + m) * (bt + 1) := Nat.mul_le_mul_left _ (by omega)
    omega
   have hr := run_append_nil (P := P) w t ty e i zv ht hi hz a m xc news (by rw [h1, his]) h2 hpos (by omega) (by rw [hib]; rw [Nat.zero_add] at hb; omega)
   have hge := grownCap_ge w m 0 e
   have hle := grownCap_le_maxLen w m 0 e (by unfold maxLen; omega)
   obtain ⟨g1, g2⟩ := new_arr (e := e) (sz := sz) (n := 0 + m) (cap := grownCap w m 0 e) (f := appF f 0 g) (cells := news.toArray ++ Builtin.zeroCells zv.cells (grownCap w m 0 e - m)) hS hn (by omega) hle
    (by simp only [Array.size_append, List.size_toArray, size_zc, hzs, h1, ← Nat.add_mul]; congr 1; omega)
    (fun j hj => by
     have := app_seg (γ := γ) (F := F) (sz := sz) (n := 0) (m := m) (f := f) (g := g) (xs := []) (news := news) (tl := (Builtin.zeroCells zv.cells (grownCap w m 0 e - m)).toList) (by simp) (fun i hi => by omega) h3 h1 j hj
     simpa using this) (grew_drew w) rfl
   simp only [Nat.zero_add] at g1 g2
   refine Leaves.val hr ?_ (fun _ _ x => x) (upd_old (isFree_none hS hn)) g2
   simpa using g1
theorem append_own {t ty e sz bt n m k : Nat} {i : TypeInfo} {zv : Value} {f g : Nat → D} {xa : Option Addr} {xc b cap : Nat} {c : Array Value} (hS : SLH C F γ H w) (hn : isFree H tg = true)
  (ht : P.underlying t = some (.slice e)) (hi : P.info? e = some i) (hz : i.zero = some zv) (his : i.size = sz) (hib : i.bytes = bt + 1) (hzs : zv.cells.size = sz) (hb : (n + m) * (bt + 1) ≤ 140737488355328)
  (hk : H[k]? = some (.arr e sz n f)) (hg : γ k = some (.slice (some ⟨b, 0, none⟩) n cap)) (hm0 : C.γ0.length ≤ k)
  (k1 : w.heap[b]? = some (.cells c e (0, 0))) (k2 : n ≤ cap) (k3 : cap ≤ maxLen) (k4 : c.size = cap * sz) (k5 : ∀ i, i < n → RelD F γ (f i) ((c.toList.drop (i * sz)).take sz))
  (hm : m = 0 ∨ ∃ (a : Addr) (news : List Value), xa = some a ∧ news.length = m * sz ∧ (∀ (j : Nat) v, news[j]? = some v → w.cell? (a.add j) = some v) ∧ (∀ i, i < m → RelD F γ (g i) ((news.drop (i * sz)).take sz))) :
  Leaves P C F γ w (do pure (Next.value (← Builtin.append_ #[t, t] ty #[.slice (some ⟨b, 0, none⟩) n cap, .slice xa m xc]))) (some (.own tg)) (putH (H.set k .dead) tg (.arr e sz (n + m) (appF f n g))) := by
 have hval : ∀ v : Value, v.oneCell' = true → RelV F (updG γ tg v) (.own tg) v := fun v hv => .one rfl (.own upd_self hv)
 have old : ∀ {v : Value} (i : Nat) x, γ i = some x → updG γ tg v i = some x := fun {v} => upd_old (isFree_none hS hn)
 rcases Nat.eq_zero_or_pos m with rfl | hpos
 ·have hr := run_append_zero (P := P) (ty := ty) ht hi (ad := some ⟨b, 0, none⟩) (xa := xa) (n := n) (cap := cap) (xc := xc) k2 w
  refine Leaves.val hr (hS.renew (w' := w) hn (fun e => by cases e) hk rfl hg rfl hm0 rfl rfl rfl rfl (fun _ _ => rfl) rfl (.arr k1 k2 k3 k4 fun j hj => ?_)) (fun _ _ x => x) old (hval _ rfl)
  unfold appF
  rw [if_pos (by omega)]
  exact (k5 j (by omega)).mono (fun _ _ x => x) old
 ·rcases hm with rfl | ⟨a, news, rfl, h1, h2, h3⟩
  ·omega
  ·have hmb : n + m ≤ 140737488355328 := by
    have : (n + m) * 1 ≤ (n + m) * (bt + 1) := Nat.mul_le_mul_left _ (by omega)
    omega
   have hns : n * sz ≤ c.size := by rw [k4]; exact Nat.mul_le_mul_right _ k2
   have hseg : (c.toList.take (n * sz)).length = n * sz := by rw [List.length_take, Array.length_toList]; omega
   have h5 : ∀ i, i < n → RelD F γ (f i) (((c.toList.take (n * sz)).drop (i * sz)).take sz) := fun i hi => by
    have := seg_seg c.toList 0 (n * sz) (i * sz) sz (sz_bound hi)
    simp only [List.drop_zero, Nat.zero_add] at this
    rw [this]; exact k5 i hi
   have hone := news_one h1 h3
   by_cases hroom : n + m ≤ cap
   ·have hfit : n * i.size + news.length ≤ c.size := by rw [h1, his, k4, ← Nat.add_mul]; exact Nat.mul_le_mul_right _ hroom
    have hr := run_append_room (P := P) w t ty e i ht hi b n cap c k1 a m xc news (by rw [h1, his]) h2 hone hroom hfit
    rw [his] at hr
    refine Leaves.val hr (hS.renew hn (fun e => by cases e) hk rfl hg rfl hm0 rfl rfl rfl (by simp) (fun j hj => setRow_other w b j _ hj) rfl (.arr (setRow_heap w b c _ e _ k1) hroom k3 ?_ fun j hj => ?_)) (fun _ _ x => x) old (hval _ rfl)
    ·rw [his] at hfit
     simp only [List.size_toArray, List.length_append, hseg, List.length_drop, Array.length_toList]
     omega
    ·exact (app_seg (tl := c.toList.drop (n * sz + news.length)) hseg h5 h3 h1 j hj).mono (fun _ _ x => x) old
   ·have hr := run_append_grow (P := P) w t ty e i zv ht hi hz ⟨b, 0, none⟩ n cap (c.toList.take (n * sz)) (by rw [hseg, his]) (by
      have := cell_at (off := 0) k1 (n := n * sz) (by omega)
      simpa using this) a m xc news (by rw [h1, his]) h2 (by omega) (by omega) (growslice_fits (by omega) (by rw [hib]; exact hb))
    have hge := grownCap_ge w (n + m) cap e
    have hle := grownCap_le_maxLen w (n + m) cap e (by unfold maxLen; omega)
    have hS' := hS.kill k
    have hn' := isFree_dead hn ⟨_, hk, rfl⟩
    obtain ⟨g1, g2⟩ := new_arr (e := e) (sz := sz) (n := n + m) (cap := grownCap w (n + m) cap e) (f := appF f n g) (cells := (c.toList.take (n * sz)).toArray ++ news.toArray ++ Builtin.zeroCells zv.cells (grownCap w (n + m) cap e - (n + m))) hS' hn' hge hle
     (by simp only [Array.size_append, List.size_toArray, size_zc, hzs, h1, hseg, ← Nat.add_mul]; congr 1; omega)
     (fun j hj => by
      have := app_seg (γ := γ) (F := F) (tl := (Builtin.zeroCells zv.cells (grownCap w (n + m) cap e - (n + m))).toList) hseg h5 h3 h1 j hj
      simpa using this) (grew_drew w) rfl
    exact Leaves.val hr g1 (fun _ _ x => x) old g2
theorem evAppend_sound {t ty : TypeId} {s x : D} {vs vx vc d H'} (hS : SLH C F γ H w) (hn : isFree H tg = true) (hs : RelV F γ s vs) (hx : RelV F γ x vx) (h : evAppend P C.γ0.length H tg t s x = some (vc, d, H')) (hvc : all vc) :
  Leaves P C F γ w (do pure (Next.value (← Builtin.append_ #[t, t] ty #[vs, vx]))) d (applyU H H') := by
 unfold evAppend at h
 split at h
 ·rename_i e hu
  split at h
  ·rename_i sz z bt hsz hz hb
   obtain ⟨zv, z1, z2, z3⟩ := zeroT_sound (F := F) hz
   obtain ⟨i, i1, i2, i3⟩ := info_of hsz z1
   have hib : i.bytes = bt + 1 := by rw [i1] at hb; simpa using hb
   have hzs0 : zv.cells.toList.length = z.size := z2.length
   split at h
   case isFalse => cases h
   rename_i hzz
   have hzs : zv.cells.size = sz := by rw [← hzz, ← hzs0]; simp
   split at h
   ·rename_i n f H1 hh
    -- the source
    have src : ∃ m g xa xc, vx = .slice xa m xc ∧ vc = ([VP.dec ((n + m) * (bt + 1) ≤ 140737488355328)] : List VP) ∧ d = some (.own tg) ∧ H' = H1 ++ [(tg, .arr e sz (n + m) (appF f n g))] ∧
      (m = 0 ∨ ∃ (a : Addr) (news : List Value), xa = some a ∧ news.length = m * sz ∧ (∀ (j : Nat) v, news[j]? = some v → w.cell? (a.add j) = some v) ∧ (∀ i, i < m → RelD F γ (g i) ((news.drop (i * sz)).take sz))) := by
     split at h
     ·rename_i hn
      simp only [Option.some.injEq, Prod.mk.injEq] at h
      obtain ⟨rfl, rfl, rfl⟩ := h
      exact ⟨0, _, none, 0, isNil_val hn hx, rfl, rfl, rfl, .inl rfl⟩
     ·split at h
      ·rename_i sz' m g he
       split at h
       ·rename_i hss
        subst hss
        simp only [Option.some.injEq, Prod.mk.injEq] at h
        obtain ⟨rfl, rfl, rfl⟩ := h
        obtain ⟨ad, cap, e1, e2⟩ := elems_mem hS hx he
        exact ⟨m, g, ad, cap, e1, rfl, rfl, rfl, e2⟩
       ·cases h
      ·cases h
    obtain ⟨m, g, xa, xc, rfl, rfl, rfl, rfl, hm⟩ := src
    simp only [all] at hvc
    unfold headOf at hh
    split at hh
    ·rename_i k
     split at hh
     ·rename_i e' sz' n' f' ho
      split at hh
      ·rename_i hc
       obtain ⟨rfl, rfl, hk0⟩ := hc
       simp only [Option.some.injEq, Prod.mk.injEq] at hh
       obtain ⟨rfl, rfl, rfl⟩ := hh
       have hg := own_val hs
       have hO := hS.obj k _ _ ho hg
       have eu : applyU H ([(k, .dead)] ++ [(tg, .arr e' sz' (n' + m) (appF f' n' g))]) = putH (H.set k .dead) tg (.arr e' sz' (n' + m) (appF f' n' g)) := by
        show putH (putH H k .dead) tg _ = _
        rw [putH_set (List.getElem?_eq_some_iff.1 ho).1]
       rw [eu]
       cases hO with
       | arr0 =>
        exact append_nil (P := P) (ty := ty) (f := f') (xc := xc) (hS.kill k) (isFree_dead hn ⟨_, ho, rfl⟩) hu i1 i3 i2 hib hzs hvc hm
       | arr k1 k2 k3 k4 k5 => exact append_own hS hn hu i1 i3 i2 hib hzs hvc ho hg hk0 k1 k2 k3 k4 k5 hm
      ·cases hh
     ·cases hh
    ·split at hh
     ·rename_i hnil
      simp only [Option.some.injEq, Prod.mk.injEq] at hh
      obtain ⟨rfl, rfl, rfl⟩ := hh
      rw [isNil_val hnil hs]
      exact append_nil hS hn hu i1 i3 i2 hib hzs hvc hm
     ·cases hh
   ·cases h
  ·cases h
 ·cases h
end
end Go.Eng
namespace Go.Eng
def setMap (f : List Int → Option PV) (ks : List Int) (p : PV) : List Int → Option PV := fun l => bif l == ks then some p else f l
theorem setMap_at {f : List Int → Option PV} {ks : List Int} {p : PV} : setMap f ks p ks = some p := by simp [setMap]
theorem setMap_ne {f : List Int → Option PV} {ks l : List Int} {p : PV} (h : l ≠ ks) : setMap f ks p l = f l := by
 have : (l == ks) = false := beq_eq_false_iff_ne.2 h
 simp only [setMap, this, cond_false]
theorem findE_none_push {ks : List Int} {v : Value} : ∀ {L : Ents} {s : Nat} {ls : List Int}, findE ks L s = none → findE ls (L ++ [(ks, v)]) s = if ls = ks then some (s + L.length, v) else findE ls L s
 | [], s, ls, _ => by
  simp only [List.nil_append, findE, List.length_nil, Nat.add_zero]
 | (k, u) :: L, s, ls, h => by
  simp only [findE] at h
  split at h
  ·cases h
  ·rename_i hne
   simp only [List.cons_append, findE, List.length_cons]
   by_cases hl : ls = k
   ·subst hl
    rw [if_pos rfl, if_neg (fun e => hne e.symm), if_pos rfl]
   ·rw [if_neg hl, if_neg hl, findE_none_push h]
    split
    ·rw [show s + 1 + L.length = s + (L.length + 1) by omega]
    ·rfl
theorem findE_some {ks : List Int} {v v' : Value} : ∀ {L : Ents} {s i : Nat}, findE ks L s = some (i, v) → s ≤ i ∧ L[i - s]? = some (ks, v) ∧ ∀ ls, findE ls (L.set (i - s) (ks, v')) s = if ls = ks then some (i, v') else findE ls L s
 | [], s, i, h => by cases h
 | (k, u) :: L, s, i, h => by
  simp only [findE] at h
  split at h
  ·rename_i hk
   simp only [Option.some.injEq, Prod.mk.injEq] at h
   obtain ⟨rfl, rfl⟩ := h
   subst hk
   refine ⟨Nat.le_refl _, by simp, fun ls => ?_⟩
   simp only [Nat.sub_self, List.set_cons_zero, findE]
   split <;> rfl
  ·rename_i hne
   obtain ⟨h1, h2, h3⟩ := findE_some (v' := v') h
   obtain ⟨j, rfl⟩ : ∃ j, i = s + 1 + j := ⟨i - (s + 1), by omega⟩
   rw [show s + 1 + j - (s + 1) = j by omega] at h2 h3
   have e : s + 1 + j - s = j + 1 := by omega
   refine ⟨by omega, by rw [e]; simpa using h2, fun ls => ?_⟩
   rw [e]
   simp only [List.set_cons_succ, findE]
   by_cases hl : ls = k
   ·subst hl
    rw [if_pos rfl, if_neg (fun e => hne e.symm), if_pos rfl]
   ·rw [if_neg hl, if_neg hl, h3]
theorem sameBits_kd (kd : KD) (ks : List Int) : Instr.sameBits 10000 (kd.val ks) (kd.val ks) = true := by
 cases kd with
 | one k => simp [KD.val, Instr.sameBits]
 | arr n k =>
  simp only [KD.val]
  rw [show (10000 : Nat) = 9999 + 1 from rfl, Instr.sameBits]
  simp only [beq_self_eq_true, Bool.true_and, List.all_eq_true]
  intro x hx
  have : ∀ {l : List Int} {x : Value × Value}, x ∈ (l.map fun a => Value.int k a).zip (l.map fun a => Value.int k a) → ∃ a, x = (.int k a, .int k a) := by
   intro l
   induction l with
   | nil => intro x hx; simp at hx
   | cons a l ih =>
    intro x hx
    simp only [List.map_cons, List.zip_cons_cons, List.mem_cons] at hx
    rcases hx with rfl | hx
    ·exact ⟨_, rfl⟩
    ·exact ih hx
  obtain ⟨a, rfl⟩ := this hx
  simp [Instr.sameBits]
theorem findE_ne {ks : List Int} : ∀ {L : Ents} {s : Nat}, findE ks L s = none → ∀ x ∈ L, x.1 ≠ ks
 | [], _, _, x, hx => by cases hx
 | (k, u) :: L, s, h, x, hx => by
  simp only [findE] at h
  split at h
  ·cases h
  ·rename_i hne
   rcases List.mem_cons.1 hx with rfl | hx
   ·exact fun e => hne e.symm
   ·exact findE_ne h x hx
theorem kd_inj {kd : KD} {a b : List Int} (ha : a.length = kd.len) (hb : b.length = kd.len) (h : kd.val a = kd.val b) : a = b := by
 cases kd with
 | one k =>
  match a, b, ha, hb with
  | [x], [y], _, _ => simp only [KD.val, List.headD_cons, Value.int.injEq, true_and] at h; rw [h]
 | arr n k =>
  simp only [KD.val, Value.agg.injEq] at h
  have h' : a.map (Value.int k) = b.map (Value.int k) := by simpa using congrArg Array.toList h
  exact (List.map_inj_right (fun x y e => by cases e; rfl)).1 h'
theorem fresh {kd : KD} {es : List MapEntry} {L : Ents} {ks : List Int} (k2 : EntsOf kd es L) (hl : ks.length = kd.len) (hf : findE ks L 0 = none) : ∀ x ∈ es, x.key ≠ kd.val ks := by
 intro x hx e
 have : (x.key, x.val) ∈ L.map (fun x => (kd.val x.1, x.2)) := by rw [← k2.1]; exact List.mem_map_of_mem hx
 obtain ⟨y, hy, hye⟩ := List.mem_map.1 this
 have e1 : kd.val y.1 = x.key := congrArg (·.1) hye
 exact findE_ne hf y hy (kd_inj (k2.2 y hy) hl (e1.trans e))
section
variable {P : Program} {C : Cx} {F : PHeap} {γ : Gm} {H : List O} {w : World} {tg : Nat}
def evMakeMap (P : Program) (tg : Nat) (t : TypeId) : Option (List VP × Option D × Ups) := match P.underlying t with
 | some (.map kt _) => match kdOf P kt with
  | some kd => some ([], some (.own tg), [(tg, .map kd fun _ => none)])
  | none => none
 | _ => none
theorem evMakeMap_sound {t : TypeId} {vc d H'} (hS : SLH C F γ H w) (hn : isFree H tg = true) (h : evMakeMap P tg t = some (vc, d, H')) : Leaves P C F γ w (do pure (Next.value (← Instr.makeMap t none))) d (applyU H H') := by
 unfold evMakeMap at h
 split at h
 ·split at h
  ·rename_i kd hk
   simp only [Option.some.injEq, Prod.mk.injEq] at h
   obtain ⟨_, rfl, rfl⟩ := h
   refine Leaves.val (w' := w.alloc (.map #[] 0)) (v := .map (some w.heap.size)) ?_ (hS.push (o := .map kd fun _ => none) (g := .map (some w.heap.size)) hn (fun e => by cases e) (grew_alloc w _) (fun b hb => ?_) (.map (L := []) (heap_alloc_new w _) ⟨rfl, fun x hx => by cases hx⟩ ⟨MapKept.stamped_empty 0, fun ks _ => .inl ⟨rfl, rfl⟩⟩)) (fun _ _ x => x) (upd_old (isFree_none hS hn)) (.one rfl (.own upd_self rfl))
   ·simp [Instr.makeMap]
   ·simp only [blk, Option.some.injEq] at hb
    subst hb
    exact ⟨Nat.le_refl _, by simp⟩
  ·cases h
 ·cases h
def evMapSet (P : Program) (H : List O) (t : TypeId) (m key x : D) : Option (List VP × Option D × Ups) := match P.underlying t with
 | some (.map kt _) => match kdOf P kt, m, x with
  | some kd, .own j, .p p => match H[j]? with
   | some (.map kd' f) => match keyInts kd key with
    | some ks => if sameKD kd kd' && !p.many then some ([], none, [(j, .map kd (setMap f ks p))]) else none
    | none => none
   | _ => none
  | _, _, _ => none
 | _ => none
theorem evMapSet_sound {t : TypeId} {m key x : D} {vm vk vx vc d H'} (hS : SLH C F γ H w) (hm : RelV F γ m vm) (hk : RelV F γ key vk) (hx : RelV F γ x vx) (h : evMapSet P H t m key x = some (vc, d, H')) :
  Leaves P C F γ w (do Instr.mapUpdate t vm vk vx; pure .skip) d (applyU H H') := by
 unfold evMapSet at h
 split at h
 ·rename_i kt et hu
  split at h
  ·rename_i kd j p e1
   split at h
   ·rename_i kd' f ho
    split at h
    ·rename_i ks hks
     split at h
     ·rename_i hc
      simp only [Bool.and_eq_true, Bool.not_eq_true'] at hc
      obtain rfl := sameKD_eq hc.1
      simp only [Option.some.injEq, Prod.mk.injEq] at h
      obtain ⟨_, rfl, rfl⟩ := h
      obtain ⟨rfl, hl⟩ := keyInts_val hks hk
      have hg := own_val hm
      have hO := hS.obj j _ _ ho hg
      have hxp : RelP F p [vx] := by
       cases hx with
       | one _ hx => cases hx with | p hx => exact hx
       | many hm => rw [show (D.p p).many = p.many from rfl, hc.2] at hm; cases hm
      have eu : applyU H [(j, O.map kd (setMap f ks p))] = H.set j (.map kd (setMap f ks p)) := putH_set (List.getElem?_eq_some_iff.1 ho).1
      rw [eu]
      cases hO with
      | @map _ _ b es ck L k1 k2 k3 =>
       have hlt : b < w.heap.size := (Array.getElem?_eq_some_iff.1 k1).1
       have fin : ∀ (es' : Array MapEntry) (ck' : Nat) (L' : Ents), EntsOf kd es'.toList L' → MapKept.Stamped es' ck' → (∀ ls, findE ls L' 0 = none ∧ ls ≠ ks ∧ findE ls L 0 = none ∨ (∃ i, findE ls L' 0 = some (i, vx) ∧ ls = ks) ∨ (∃ i v i', findE ls L' 0 = some (i, v) ∧ ls ≠ ks ∧ findE ls L 0 = some (i', v))) →
         SLH C F γ (H.set j (.map kd (setMap f ks p))) { w with heap := w.heap.setIfInBounds b (.map es' ck') } := by
        intro es' ck' L' q1 q0 q2
        refine hS.write (b := b) (fun e => by cases e) ho rfl hg rfl rfl rfl rfl (by simp) (fun k hk => ?_) (.map (es := es') (ck := ck') (L := L') ?_ q1 ⟨q0, fun ls hls => ?_⟩)
        ·simp [Array.getElem?_setIfInBounds, Ne.symm hk]
        ·simp [Array.getElem?_setIfInBounds, hlt]
        ·rcases q2 ls with ⟨r1, r2, r3⟩ | ⟨i, r1, r2⟩ | ⟨i, v, i', r1, r2, r3⟩
         ·refine .inl ⟨r1, ?_⟩
          rw [setMap_ne r2]
          rcases k3.2 ls hls with ⟨_, s2⟩ | ⟨_, _, _, s1, _⟩
          ·exact s2
          ·rw [r3] at s1; cases s1
         ·exact .inr ⟨i, vx, p, r1, by rw [r2]; exact setMap_at, hc.2, hxp⟩
         ·rw [setMap_ne r2]
          rcases k3.2 ls hls with ⟨s1, _⟩ | ⟨_, v', p', s1, s2, s3, s4⟩
          ·rw [r3] at s1; cases s1
          ·rw [r3] at s1
           simp only [Option.some.injEq, Prod.mk.injEq] at s1
           obtain ⟨_, rfl⟩ := s1
           exact .inr ⟨i, v, p', r1, s2, s3, s4⟩
       obtain ⟨k2a, k2b⟩ := k2
       cases hf : findE ks L 0 with
       | none =>
        refine ⟨F, γ, _, .skip, ?_, fin (es.push { key := kd.val ks, val := vx, born := ck }) (ck + 1) (L ++ [(ks, vx)]) ⟨?_, ?_⟩ (MapKept.stamped_push k3.1 (fresh ⟨k2a, k2b⟩ hl hf)) ?_, fun _ _ x => x, fun _ _ x => x, rfl⟩
        ·unfold Instr.mapUpdate
         simp only [Sem.run_bind, run_underlying hu, Result.andThen_ok, WideMaps_getObj k1, run_checkKey_kd e1 hl, run_findKey_kd e1 hl ⟨k2a, k2b⟩, hf]
         simp [setObj, Sem.run, k1]
        ·simp [k2a]
        ·intro x hx
         rcases List.mem_append.1 hx with hx | hx
         ·exact k2b x hx
         ·simp only [List.mem_singleton] at hx; subst hx; exact hl
        ·intro ls
         rw [findE_none_push hf]
         by_cases hls : ls = ks
         ·rw [if_pos hls]; exact .inr (.inl ⟨_, rfl, hls⟩)
         ·rw [if_neg hls]
          cases hq : findE ls L 0 with
          | none => exact .inl ⟨rfl, hls, rfl⟩
          | some q => obtain ⟨i, v⟩ := q; exact .inr (.inr ⟨i, v, i, rfl, hls, rfl⟩)
       | some q =>
        obtain ⟨i, v⟩ := q
        obtain ⟨_, f2, f3⟩ := findE_some (v' := vx) hf
        rw [Nat.sub_zero] at f2 f3
        have hi : i < L.length := (List.getElem?_eq_some_iff.1 f2).1
        have hlen : es.size = L.length := by have := congrArg List.length k2a; simpa using this
        have hei : (es[i]?).map (fun e => (e.key, e.val)) = some (kd.val ks, v) := by
         have := congrArg (fun l => l[i]?) k2a
         simp only [List.getElem?_map, f2, Option.map_some, Array.getElem?_toList] at this
         exact this
        have hkey : ((es[i]?).map (·.key)).getD (kd.val ks) = kd.val ks := by
         cases he : es[i]? with
         | none => rfl
         | some e =>
          rw [he] at hei
          simp only [Option.map_some, Option.some.injEq, Prod.mk.injEq] at hei
          simp [hei.1]
        refine ⟨F, γ, _, .skip, ?_, fin (es.modify i fun e => { e with key := kd.val ks, val := vx }) ck (L.set i (ks, vx)) ⟨?_, ?_⟩ (MapKept.stamped_modify k3.1 i _ (fun _ _ => rfl) (fun e _ he => ?_)) ?_, fun _ _ x => x, fun _ _ x => x, rfl⟩
        ·unfold Instr.mapUpdate
         simp only [Sem.run_bind, run_underlying hu, Result.andThen_ok, WideMaps_getObj k1, run_checkKey_kd e1 hl, run_findKey_kd e1 hl ⟨k2a, k2b⟩, hf, hkey, Instr.keyThatStays, sameBits_kd, if_true, Sem.run_pure]
         simp [setObj, Sem.run, k1]
        ·rw [Array.toList_modify]
         rw [List.map_set]
         rw [← k2a]
         apply List.ext_getElem?
         intro j
         rw [List.getElem?_map, List.getElem?_modify, List.getElem?_set, List.getElem?_map]
         by_cases hj : i = j
         ·subst hj
          have : i < es.toList.length := by simp [hlen, hi]
          simp [this, hlen, hi]
         ·simp [hj]
        ·intro x hx
         rcases List.mem_or_eq_of_mem_set hx with hx | rfl
         ·exact k2b x hx
         ·exact hl
        ·rw [he] at hei
         simp only [Option.map_some, Option.some.injEq, Prod.mk.injEq] at hei
         exact hei.1.symm
        ·intro ls
         rw [f3]
         by_cases hls : ls = ks
         ·rw [if_pos hls]; exact .inr (.inl ⟨_, rfl, hls⟩)
         ·rw [if_neg hls]
          cases hq : findE ls L 0 with
          | none => exact .inl ⟨rfl, hls, rfl⟩
          | some q => obtain ⟨i', v'⟩ := q; exact .inr (.inr ⟨i', v', i', rfl, hls, rfl⟩)
     ·cases h
    ·cases h
   ·cases h
  ·cases h
 ·cases h
end
end Go.Eng
namespace Go.Eng
open Go.RowKit
section
variable {P : Program} {C : Cx} {F : PHeap} {γ : Gm} {H : List O} {w : World} {tg : Nat} {E : Env} {a : Act}
/-! ### A string's bytes -/
def bytesPV (l : List UInt8) : PV := .lst 1 l.length (fun j => .v (.int .u8 ((l.getD j 0).toNat : Int)))
def evBytes (P : Program) (H : List O) (s t : TypeId) (x : D) : Option (List VP × Option D × Ups) :=
 match P.underlying s, P.underlying t with
 | some .string, some (.slice e) => match P.underlying e, x.asStr with
  | some (.int .u8), some l => some ([], some (.p (bytesPV l)), [])
  | _, _ => none
 | _, _ => none
theorem evBytes_sound {s t : TypeId} {x : D} {vx vc d H'} (hS : SLH C F γ H w) (hx : RelV F γ x vx) (h : evBytes P H s t x = some (vc, d, H')) :
  Leaves P C F γ w (do pure (Next.value (← convert s t vx))) d (applyU H H') := by
 unfold evBytes at h
 split at h
 ·rename_i e h1 h2
  split at h
  ·rename_i l h3 hl
   have hl := asStr_val hl hx
   subst hl
   simp only [Option.some.injEq, Prod.mk.injEq] at h
   obtain ⟨_, rfl, rfl⟩ := h
   have hsz : (ByteArray.mk l.toArray).size = l.length := bytes_size l
   have hrun := run_bytes_of_string (P := P) w s t e ⟨l.toArray⟩ h1 h2 h3
   have hge : l.length ≤ grownCap w (ByteArray.mk l.toArray).size 0 e := by have := grownCap_ge w (ByteArray.mk l.toArray).size 0 e; rw [hsz] at this; rw [hsz]; exact this
   generalize hcap : grownCap w (ByteArray.mk l.toArray).size 0 e = cap at hrun hge
   rw [hsz] at hrun
   let cells := bytesRow ⟨l.toArray⟩ cap
   have hcs : l.length ≤ cells.size := by simp [cells, bytesRow, hsz]
   have hnew : (w.drew.alloc (.cells cells e (cells.size, cells.size + 1))).heap[w.heap.size]? = some (.cells cells e (cells.size, cells.size + 1)) := heap_alloc_new w.drew _
   have hg : Grew w (w.drew.alloc (.cells cells e (cells.size, cells.size + 1))) := (grew_drew w).trans (grew_alloc _ _)
   let F' : PHeap := fun b => if b = w.heap.size then some cells else F b
   have hFF : ∀ b c, F b = some c → F' b = some c := fun b c hb => by
    have := sub_lt hS hb
    simp only [F']
    rw [if_neg (by omega)]; exact hb
   have hsub : Sub F' (w.drew.alloc (.cells cells e (cells.size, cells.size + 1))) := fun b c hb => by
    simp only [F'] at hb
    split at hb
    ·rename_i hbe
     subst hbe
     cases hb
     exact ⟨_, _, hnew⟩
    ·exact sub_grew hS hg b c hb
   refine Leaves.val hrun (hS.grew (F' := F') hg (fun b hb => by simp only [F']; rw [if_neg (by omega)]) hsub) hFF (fun _ _ x => x) (.one rfl (.p ?_))
   refine .lst (b := w.heap.size) (off := 0) (c := cells) (by simp [F']) hge (by omega) fun i hi => ?_
   have hci : cells.toList[i]? = some (.int .u8 ((l.getD i 0).toNat : Int)) := by
    simp only [cells, bytesRow, Array.toList_append, Array.toList_map]
    rw [List.getElem?_append_left (by simpa using hi)]
    simp [List.getD, List.getElem?_eq_getElem hi]
   have : ((cells.toList.drop (0 + i * 1)).take 1) = [.int .u8 ((l.getD i 0).toNat : Int)] := by
    rw [Nat.zero_add, Nat.mul_one]
    apply List.ext_getElem?
    intro k
    rw [List.getElem?_take, List.getElem?_drop]
    cases k with
    | zero => simpa using hci
    | succ k => simp
   rw [this]
   exact .v rfl
  ·cases h
 ·cases h
/-! ### One function for the operations with an effect -/
def evX (P : Program) (m0 : Nat) (H : List O) (tg : Nat) (ev : Operand → Option D) : Op → Option (List VP × Option D × Ups)
 | .alloc t => evAlloc P H tg t
 | .box _ x => match ev x with
  | some d => evBox H tg d
  | none => none
 | .buildSlice t len parts => match evParts ev parts.toList with
  | some ps => evBuildSlice P H tg t len ps
  | none => none
 | .makeSlice t l c => match ev l, ev c with
  | some a, some b => evMake P H tg t a b
  | _, _ => none
 | .store t x y => match ev x, ev y with
  | some a, some b => evStore P H t a b
  | _, _ => none
 | .convert s t x => match ev x with
  | some d => evBytes P H s t d
  | none => none
 | .call { callee := .builtin .append, args, argTypes } => match args.toList, argTypes.toList with
  | [x, y], [t, t'] => if t = t' then match ev x, ev y with
    | some a, some b => evAppend P m0 H tg t a b
    | _, _ => none
   else none
  | _, _ => none
 | .makeMap t none => evMakeMap P tg t
 | .mapUpdate t m k x => match ev m, ev k, ev x with
  | some a, some b, some c => evMapSet P H t a b c
  | _, _, _ => none
 | .insert t m k x => match ev m, ev k, ev x with
  | some a, some b, some c => evMapSet P H t a b c
  | _, _, _ => none
 | _ => none
theorem evX_sound {ev : Operand → Option D} {ρ : Operand → Value} {o : Oper} {vc d H'} (hS : SLH C F γ H w) (htg : isFree H tg = true) (hev : ∀ x ∈ o.op.operands, ∀ d, ev x = some d → RelV F γ d (ρ x)) (h : evX P C.γ0.length H tg ev o.op = some (vc, d, H')) (hvc : all vc) :
  Leaves P C F γ w (execOp ρ o) d (applyU H H') := by
 unfold evX at h
 unfold execOp
 split at h
 ·rename_i t ho
  simp only [ho]
  exact evAlloc_sound hS htg h
 ·rename_i t x ho
  split at h
  ·rename_i a ha
   simp only [ho]
   exact evBox_sound hS htg (hev _ (by rw [ho]; simp [Op.operands]) _ ha) h
  ·cases h
 ·rename_i t len parts ho
  split at h
  ·rename_i ps hps
   simp only [ho]
   exact evBuildSlice_sound hS htg (fun kx hk => hev kx.2 (by rw [ho]; simp only [Op.operands, List.mem_toArray, List.mem_map]; exact ⟨kx, hk, rfl⟩)) hps h
  ·cases h
 ·rename_i t l c ho
  split at h
  ·rename_i a b ha hb
   simp only [ho]
   exact evMake_sound hS htg (hev _ (by rw [ho]; simp [Op.operands]) _ ha) (hev _ (by rw [ho]; simp [Op.operands]) _ hb) h hvc
  ·cases h
 ·rename_i t x y ho
  split at h
  ·rename_i a b ha hb
   simp only [ho]
   exact evStore_sound hS (hev _ (by rw [ho]; simp [Op.operands]) _ ha) (hev _ (by rw [ho]; simp [Op.operands]) _ hb) h hvc
  ·cases h
 ·rename_i s t x ho
  split at h
  ·rename_i a ha
   simp only [ho]
   exact evBytes_sound hS (hev _ (by rw [ho]; simp [Op.operands]) _ ha) h
  ·cases h
 ·rename_i args argTypes ho
  split at h
  ·rename_i x y t t' hx ht
   split at h
   ·rename_i htt
    subst htt
    split at h
    ·rename_i a b ha hb
     have e1 : args = #[x, y] := by rw [← Array.toArray_toList (xs := args), hx]
     have e2 : argTypes = #[t, t] := by rw [← Array.toArray_toList (xs := argTypes), ht]
     subst e1 e2
     have := evAppend_sound (ty := o.type) hS htg (hev _ (by rw [ho]; simp [Op.operands, Call.operands]) _ ha) (hev _ (by rw [ho]; simp [Op.operands, Call.operands]) _ hb) h hvc
     simp only [ho, resolve, invoke, builtin]
     obtain ⟨F', γ', w', r, h1, h2⟩ := this
     refine ⟨F', γ', w', r, ?_, h2⟩
     simp only [Sem.run_bind, Sem.run_pure, Result.andThen_ok, List.map_toArray, List.map_cons, List.map_nil]
     simpa only [Sem.run_bind, Sem.run_pure] using h1
    ·cases h
   ·cases h
  ·cases h
 ·rename_i t ho
  simp only [ho]
  exact evMakeMap_sound hS htg h
 ·rename_i t m k x ho
  split at h
  ·rename_i a b c ha hb hc
   simp only [ho]
   exact evMapSet_sound hS (hev _ (by rw [ho]; simp [Op.operands]) _ ha) (hev _ (by rw [ho]; simp [Op.operands]) _ hb) (hev _ (by rw [ho]; simp [Op.operands]) _ hc) h
  ·cases h
 ·rename_i t m k x ho
  split at h
  ·rename_i a b c ha hb hc
   simp only [ho]
   exact evMapSet_sound hS (hev _ (by rw [ho]; simp [Op.operands]) _ ha) (hev _ (by rw [ho]; simp [Op.operands]) _ hb) (hev _ (by rw [ho]; simp [Op.operands]) _ hc) h
  ·cases h
 ·cases h
theorem sle_mono {F' : PHeap} {γ' : Gm} (hE : SLE F γ E a) (hF : ∀ b c, F b = some c → F' b = some c) (hγ : ∀ (i : Nat) g, γ i = some g → γ' i = some g) : SLE F' γ' E a := fun t g d h => by
 obtain ⟨h1, h2⟩ := hE t g d h
 refine ⟨fun ho => ?_, h2⟩
 obtain ⟨v, k1, k2⟩ := h1 ho
 exact ⟨v, k1, k2.mono hF hγ⟩
def stepX (P : Program) (m0 N : Nat) (ops : Array Oper) (H : List O) (tg : Nat) (o : Oper) (E : Env) : Option (List VP × Env × Ups) :=
 match execCond ops E o with
 | some none => if isFree H tg = true ∧ dstOk N o.dst = true then match needs E none o.op.operands.toList, evX P m0 H tg (evE E) o.op with
   | some n, some (vc, some d, H') => some (n ++ vc, setE E o.dst none d, H')
   | some n, some (vc, none, H') => match o.dst with
    | none => some (n ++ vc, E, H')
    | some _ => none
   | _, _ => none
  else none
 | _ => none
def Goes (P : Program) (C : Cx) (ops : Array Oper) (E' : Env) (H' : List O) (o : Oper) (a : Act) (w : World) : Prop :=
 ∃ v w' F' γ', ((Region.wanted o (yielded ops a.tmps) = true ∧ ((execOp a.eval o).run P w = .ok (.value v) w' ∨ ((execOp a.eval o).run P w = .ok .skip w' ∧ v = undef))) ∨ (Region.wanted o (yielded ops a.tmps) = false ∧ v = undef ∧ w' = w)) ∧
  SLH C F' γ' H' w' ∧ SLE F' γ' E' (a.put o.dst v)
theorem stepX_sound {ops : Array Oper} {o : Oper} {vc E' H'} (hS : SLH C F γ H w) (hE : SLE F γ E a) (hN : a.tmps.size = C.N) (h : stepX P C.γ0.length C.N ops H tg o E = some (vc, E', H')) (hvc : all vc) : Goes P C ops E' (applyU H H') o a w := by
 unfold stepX at h
 split at h
 ·rename_i he
  have hw := (wanted_iff hE he).2 trivial
  split at h
  ·rename_i hd
   obtain ⟨htg, hd⟩ := hd
   split at h
   ·rename_i n vc' d H1 hn hx
    simp only [Option.some.injEq, Prod.mk.injEq] at h
    obtain ⟨rfl, rfl, rfl⟩ := h
    rw [all_append] at hvc
    obtain ⟨F', γ', w', r, h1, h2, h3, h4, h5⟩ := evX_sound (ρ := a.eval) hS htg (fun x hx d hd => needs_spec (e := none) hS.glob hE trivial hn hvc.1 x (by simpa using hx) d hd) hx hvc.2
    obtain ⟨v, rfl, h6⟩ := h5
    exact ⟨v, w', F', γ', .inl ⟨hw, .inl h1⟩, h2, sle_put (sle_mono hE h3 h4) hN hd (fun _ => h6) (fun hn => absurd trivial hn)⟩
   ·rename_i n vc' H1 hn hx
    split at h
    ·rename_i hdst
     simp only [Option.some.injEq, Prod.mk.injEq] at h
     obtain ⟨rfl, rfl, rfl⟩ := h
     rw [all_append] at hvc
     obtain ⟨F', γ', w', r, h1, h2, h3, h4, h5⟩ := evX_sound (ρ := a.eval) hS htg (fun x hx d hd => needs_spec (e := none) hS.glob hE trivial hn hvc.1 x (by simpa using hx) d hd) hx hvc.2
     subst h5
     refine ⟨undef, w', F', γ', .inl ⟨hw, .inr ⟨h1, rfl⟩⟩, h2, ?_⟩
     rw [hdst]
     exact sle_mono hE h3 h4
    ·cases h
   ·cases h
  ·cases h
 ·cases h
def step (P : Program) (m0 N : Nat) (ops : Array Oper) (hs : List (Nat × D)) (i : Nat) (o : Oper) (E : Env) (H : List O) : Option (List VP × Env × List O) :=
 match stepQ P N ops H hs i o E with
 | some (vc, E') => some (vc, E', H)
 | none => (stepX P m0 N ops H H.length o E).map fun q => (q.1, q.2.1, applyU H q.2.2)
theorem step_sound {ops : Array Oper} {hs : List (Nat × D)} {i : Nat} {o : Oper} {vc E' H'} (hS : SLH C F γ H w) (hE : SLE F γ E a) (hN : a.tmps.size = C.N) (h : step P C.γ0.length C.N ops hs i o E H = some (vc, E', H')) (hvc : all vc) : Goes P C ops E' H' o a w := by
 unfold step at h
 split at h
 ·rename_i vc1 E1 h1
  simp only [Option.some.injEq, Prod.mk.injEq] at h
  obtain ⟨rfl, rfl, rfl⟩ := h
  obtain ⟨v, hv, hE'⟩ := stepQ_sound hS hE hN h1 hvc
  rcases hv with ⟨hw, hr⟩ | ⟨hw, rfl⟩
  ·exact ⟨v, w, F, γ, .inl ⟨hw, .inl (hr w (Keep.refl w))⟩, hS, hE'⟩
  ·exact ⟨undef, w, F, γ, .inr ⟨hw, rfl, rfl⟩, hS, hE'⟩
 ·simp only [Option.map_eq_some_iff, Prod.mk.injEq] at h
  obtain ⟨q, hq, rfl, rfl, rfl⟩ := h
  exact stepX_sound hS hE hN hq hvc
def run (P : Program) (m0 N : Nat) (ops : Array Oper) (hs : List (Nat × D)) : Nat → List Oper → Env → List O → Option (List VP × Env × List O)
 | _, [], E, H => some ([], E, H)
 | i, o :: l, E, H => match step P m0 N ops hs i o E H with
  | some (vc, E', H') => match run P m0 N ops hs (i + 1) l E' H' with
   | some (vc', E'', H'') => some (vc ++ vc', E'', H'')
   | none => none
  | none => none
end
section
variable {C : Cx} {E E' : Env} {H H' : List O} {a : Act} {w : World} {Q : Exit → Act → World → Prop} {id i : Nat} {ops : Array Oper} {hs : List (Nat × D)} {ts : List Nat} {vc : List VP}
theorem run_list : ∀ {l : List Oper} {i : Nat} {E E' : Env} {H H' : List O} {a : Act} {w : World} {vc} {rest : List Oper}, SL C E H a w → run C.P C.γ0.length C.N ops hs i l E H = some (vc, E', H') → all vc →
  (∀ a' w', SL C E' H' a' w' → wpList C.P ops Q rest a' w') → wpList C.P ops Q (l ++ rest) a w
 | [], i, E, E', H, H', a, w, vc, rest, hSL, h, _, hk => by
  simp only [run, Option.some.injEq, Prod.mk.injEq] at h
  obtain ⟨_, rfl, rfl⟩ := h
  exact hk a w hSL
 | o :: l, i, E, E', H, H', a, w, vc, rest, hSL, h, hvc, hk => by
  simp only [run] at h
  split at h
  ·rename_i vc1 E1 H1 h1
   split at h
   ·rename_i vc2 E2 H2 h2
    simp only [Option.some.injEq, Prod.mk.injEq] at h
    obtain ⟨rfl, rfl, rfl⟩ := h
    rw [all_append] at hvc
    obtain ⟨⟨F, γ, hS, hE⟩, hN, hD⟩ := hSL
    obtain ⟨v, w', F', γ', hgo, hS', hE'⟩ := step_sound (P := C.P) hS hE hN h1 hvc.1
    have ih : wpList C.P ops Q (l ++ rest) (a.put o.dst v) w' := run_list (SL.mk' hS' hE' (by rw [put_size, hN]) (by rw [put_defers, hD])) h2 hvc.2 hk
    show wpList C.P ops Q (o :: (l ++ rest)) a w
    unfold wpList
    rcases hgo with ⟨hw, hr | ⟨hr, rfl⟩⟩ | ⟨hw, rfl, rfl⟩
    ·rw [if_pos hw]
     refine .inl ?_
     unfold Oper.wp
     rw [hr]; exact ih
    ·rw [if_pos hw]
     refine .inl ?_
     unfold Oper.wp
     rw [hr]; exact ih
    ·rw [if_neg (by rw [hw]; simp)]
     exact ih
   ·cases h
  ·cases h
theorem seg {l : List Oper} (k : Nat) (hs : List (Nat × D)) (ts : List Nat) (i : Nat)
  (h : (run C.P C.γ0.length C.N ops hs i (l.take k) E H).bind (fun q => (proj q.2.1 ts).map fun e => (q.1, e, q.2.2)) = some (vc, E', H')) (hvc : all vc) (hSL : SL C E H a w)
  (hk : ∀ a' w', SL C E' H' a' w' → wpList C.P ops Q (l.drop k) a' w') : wpList C.P ops Q l a w := by
 rw [← List.take_append_drop k l]
 cases hr : run C.P C.γ0.length C.N ops hs i (l.take k) E H with
 | none => rw [hr] at h; cases h
 | some q =>
  obtain ⟨vc1, E1, H1⟩ := q
  rw [hr] at h
  simp only [Option.bind_some, Option.map_eq_some_iff, Prod.mk.injEq] at h
  obtain ⟨e, he, rfl, rfl, rfl⟩ := h
  exact run_list hSL hr hvc fun a' w' h' => hk a' w' ⟨(by obtain ⟨⟨F, γ, x, y⟩, _, _⟩ := h'; exact ⟨F, γ, x, sle_proj he y⟩), h'.size, h'.defers⟩
theorem reg {l : List Oper} (hs : List (Nat × D)) (ts : List Nat)
  (h : (run C.P C.γ0.length C.N l.toArray hs 0 l E H).bind (fun q => (proj q.2.1 ts).map fun e => (q.1, e, q.2.2)) = some (vc, E', H')) (hvc : all vc) (hSL : SL C E H a w)
  (hk : ∀ a' w', SL C E' H' a' w' → Q .normal a' w') : (Code.region id l.toArray false).wp C.P Q a w := by
 refine wp_region_lit ?_
 refine seg l.length hs ts 0 (by rw [List.take_length]; exact h) hvc hSL fun a' w' h' => ?_
 rw [List.drop_length]
 exact hk a' w' h'
end
end Go.Eng
namespace Go.Eng
open Go.RowKit
section
variable {C : Cx} {E E' : Env} {H H' : List O} {Q : Exit → Act → World → Prop}
/-! ### Code -/
def Tr (C : Cx) (c : Code) (E : Env) (H : List O) (Q : Exit → Act → World → Prop) : Prop := ∀ a w, SL C E H a w → c.wp C.P Q a w
theorem tr_seq {x y : Code} (h : Tr C x E H (Exit.then (y.wp C.P Q) Q)) : Tr C (.seq x y) E H Q := fun a w hs => wp_seq (h a w hs)
theorem tr_skip (h : ∀ a w, SL C E H a w → Q .normal a w) : Tr C .skip E H Q := fun a w hS => wp_skip (h a w hS)
theorem tr_exit {id : Nat} (h : ∀ a w, SL C E H a w → Q (.exit id) a w) : Tr C (.exit id) E H Q := fun a w hS => wp_exit (h a w hS)
theorem tr_ret (h : ∀ a w, SL C E H a w → Q .ret a w) : Tr C .ret E H Q := fun a w hS => wp_ret (h a w hS)
theorem tr_block {id : Nat} {c : Code} (h : Tr C c E H (Exit.inBlock id Q)) : Tr C (.block id c) E H Q := fun a w hS => wp_block (h a w hS)
theorem eval_cond {F γ} {a : Act} {t : Nat} {b : Bool} (hE : SLE F γ E a) (h : E.get t = some (none, .p (.v (.bool b)))) : a.eval (.tmp t) = .bool b := by
 obtain ⟨v, h1, h2⟩ := (hE _ _ _ h).1 trivial
 rw [eval_tmp h1, v_val h2]
theorem tr_cond {t : Nat} {x y : Code} (b : Bool) (hb : E.get t = some (none, .p (.v (.bool b)))) (ht : b = true → Tr C x E H Q) (hf : b = false → Tr C y E H Q) : Tr C (.cond (.tmp t) x y) E H Q := fun a w hS => by
 have hS' := hS
 obtain ⟨⟨F, γ, _, hE⟩, _, _⟩ := hS
 cases b with
 | true => exact wp_cond_true (eval_cond hE hb) (ht rfl a w hS')
 | false => exact wp_cond_false (eval_cond hE hb) (hf rfl a w hS')
theorem tr_loop {α : Type} {c : Code} (E1 : α → Env) (H1 : α → List O) (inv : α → Prop) (μ : α → Nat) (x0 : α) (h0 : inv x0) (hE : ∀ a w, SL C E H a w → SL C (E1 x0) (H1 x0) a w)
  (round : ∀ x, inv x → Tr C c (E1 x) (H1 x) (Exit.then (fun a w => ∃ y, inv y ∧ μ y < μ x ∧ SL C (E1 y) (H1 y) a w) Q)) : Tr C (.loop c) E H Q := by
 intro a w hS
 refine wp_loop_ghost (fun n a w => ∃ x, inv x ∧ μ x = n ∧ SL C (E1 x) (H1 x) a w) (μ x0) ⟨x0, h0, rfl, hE a w hS⟩ ?_
 rintro n a w ⟨x, hx, rfl, hS⟩
 refine wp_mono (round x hx a w hS) fun e a' w' h => ?_
 cases e with
 | normal => obtain ⟨y, h1, h2, h3⟩ := h; exact ⟨μ y, h2, y, h1, rfl, h3⟩
 | _ => exact h
/-! ### Weakening: slots and objects are forgotten, objects get other numbers -/
def lookN (i : Nat) : List (Nat × Nat) → Option Nat
 | [] => none
 | (j, k) :: l => bif Nat.beq j i then some k else lookN i l
mutual
def D.ren (σ : List (Nat × Nat)) : D → Option D
 | .p x => some (.p x)
 | .agg l => match D.rens σ l with
  | some m => some (.agg m)
  | none => none
 | .vec _ _ _ => none
 | .tup l => match D.rens σ l with
  | some m => some (.tup m)
  | none => none
 | .own i => match lookN i σ with
  | some k => some (.own k)
  | none => none
 | .ref i path => match lookN i σ with
  | some k => some (.ref k path)
  | none => none
 | .part i n => match lookN i σ with
  | some k => some (.part k n)
  | none => none
 | .fn f first caps => match D.rens σ first, D.rens σ caps with
  | some l, some m => some (.fn f l m)
  | _, _ => none
def D.rens (σ : List (Nat × Nat)) : List D → Option (List D)
 | [] => some []
 | d :: l => match d.ren σ, D.rens σ l with
  | some e, some m => some (e :: m)
  | _, _ => none
end
def D.unP : D → PV
 | .p x => x
 | _ => default
def O.ren (σ : List (Nat × Nat)) : O → Option (List VP × O)
 | .free => none
 | .dead => some ([], .dead)
 | .map kd f => some ([], .map kd f)
 | .box d => match d.ren σ with
  | some e => some ([], .box e)
  | none => none
 | .arr e sz n f => some ([∀ i, i < n → (f i).ren σ = some (f i)], .arr e sz n f)
def renE (σ : List (Nat × Nat)) : Env → Option Env
 | [] => some []
 | (t, g, d) :: E => match g, d.ren σ, renE σ E with
  | none, some e, some E' => some ((t, none, e) :: E')
  | _, _, _ => none
def renH (σ : List (Nat × Nat)) (H : List O) : List Nat → Option (List VP × List O)
 | [] => some ([], [])
 | i :: ρ => match H[i]?, renH σ H ρ with
  | some o, some (vc, H') => match o.ren σ with
   | some (vc', o') => some (vc' ++ vc, o' :: H')
   | none => none
  | _, _ => none
def numbered : List Nat → Nat → List (Nat × Nat)
 | [], _ => []
 | i :: ρ, k => (i, k) :: numbered ρ (k + 1)
def nodupN : List Nat → Bool
 | [] => true
 | i :: l => !(l.any (Nat.beq i)) && nodupN l
theorem look_numbered : ∀ {ρ : List Nat} {k i j : Nat}, lookN i (numbered ρ k) = some j → k ≤ j ∧ ρ[j - k]? = some i
 | [], _, _, _, h => by cases h
 | u :: ρ, k, i, j, h => by
  simp only [numbered, lookN] at h
  cases hb : Nat.beq u i with
  | true =>
   rw [hb] at h
   simp only [cond_true, Option.some.injEq] at h
   subst h
   rw [Nat.eq_of_beq_eq_true hb]
   exact ⟨Nat.le_refl _, by simp⟩
  | false =>
   rw [hb] at h
   obtain ⟨h1, h2⟩ := look_numbered h
   refine ⟨by omega, ?_⟩
   rw [show j - k = (j - (k + 1)) + 1 from by omega, List.getElem?_cons_succ]
   exact h2
section
variable {F : PHeap} {γ γ' : Gm} {σ : List (Nat × Nat)}
mutual
theorem ren_relD (hσ : ∀ i k, lookN i σ = some k → γ' k = γ i) : ∀ {d d' : D} {cs}, d.ren σ = some d' → RelD F γ d cs → RelD F γ' d' cs
 | .p x, d', cs, h, hr => by simp only [D.ren, Option.some.injEq] at h; subst h; cases hr with | p hr => exact .p hr
 | .agg l, d', cs, h, hr => by
  simp only [D.ren] at h
  split at h
  ·rename_i m hm
   simp only [Option.some.injEq] at h
   subst h
   exact rens_relD hσ hm hr
  ·cases h
 | .vec _ _ _, _, _, h, _ => by simp [D.ren] at h
 | .tup _, _, _, _, hr => by cases hr
 | .own i, d', cs, h, hr => by
  simp only [D.ren] at h
  split at h
  ·rename_i k hk
   simp only [Option.some.injEq] at h
   subst h
   cases hr with | own h1 h2 => exact .own (by rw [hσ _ _ hk]; exact h1) h2
  ·cases h
 | .ref i path, d', cs, h, hr => by
  simp only [D.ren] at h
  split at h
  ·rename_i k hk
   simp only [Option.some.injEq] at h
   subst h
   cases hr with | ref h1 h2 => exact .ref (by rw [hσ _ _ hk]; exact h1) h2
  ·cases h
 | .part i n, d', cs, h, hr => by
  simp only [D.ren] at h
  split at h
  ·rename_i k hk
   simp only [Option.some.injEq] at h
   subst h
   cases hr with | part h1 => exact .part (by rw [hσ _ _ hk]; exact h1)
  ·cases h
 | .fn f fi caps, d', cs, h, hr => by
  simp only [D.ren] at h
  split at h
  ·rename_i l m hl hm
   simp only [Option.some.injEq] at h
   subst h
   cases hr with | fn h1 h2 => exact .fn (rens_relD hσ hl h1) (rens_relD hσ hm h2)
  ·cases h
theorem rens_relD (hσ : ∀ i k, lookN i σ = some k → γ' k = γ i) : ∀ {l m : List D} {cs}, D.rens σ l = some m → RelD F γ (.agg l) cs → RelD F γ' (.agg m) cs
 | [], m, cs, h, hr => by simp only [D.rens, Option.some.injEq] at h; subst h; cases hr; exact .nil
 | d :: l, m, cs, h, hr => by
  simp only [D.rens] at h
  split at h
  ·rename_i e m' he hm
   simp only [Option.some.injEq] at h
   subst h
   cases hr with | cons h1 h2 => exact .cons (ren_relD hσ he h1) (rens_relD hσ hm h2)
  ·cases h
end
theorem ren_many {d d' : D} (h : d.ren σ = some d') : d'.many = d.many := by
 cases d <;> simp only [D.ren] at h <;> first | (simp only [Option.some.injEq] at h; subst h; rfl) | (cases h; done) | (split at h <;> first | (simp only [Option.some.injEq] at h; subst h; rfl) | cases h)
theorem rens_len : ∀ {l m : List D}, D.rens σ l = some m → m.length = l.length ∧ ∀ (i : Nat) d', m[i]? = some d' → ∃ d, l[i]? = some d ∧ d.ren σ = some d'
 | [], m, h => by simp only [D.rens, Option.some.injEq] at h; subst h; exact ⟨rfl, fun i d' h => by simp at h⟩
 | d :: l, m, h => by
  simp only [D.rens] at h
  split at h
  ·rename_i e m' he hm
   simp only [Option.some.injEq] at h
   subst h
   obtain ⟨h1, h2⟩ := rens_len hm
   refine ⟨by simp [h1], fun i d' hi => ?_⟩
   cases i with
   | zero => simp only [List.getElem?_cons_zero, Option.some.injEq] at hi; subst hi; exact ⟨d, rfl, he⟩
   | succ i => exact h2 i d' (by simpa using hi)
  ·cases h
theorem ren_relV (hσ : ∀ i k, lookN i σ = some k → γ' k = γ i) {d d' : D} {v} (h : d.ren σ = some d') (hr : RelV F γ d v) : RelV F γ' d' v := by
 induction hr generalizing d' with
 | one hm hr => exact .one (by rw [ren_many h]; exact hm) (ren_relD hσ h hr)
 | many hm hr => exact .many (by rw [ren_many h]; exact hm) (ren_relD hσ h hr)
 | @tup ds vs hl _ ih =>
  simp only [D.ren] at h
  split at h
  ·rename_i m hm
   simp only [Option.some.injEq] at h
   subst h
   obtain ⟨h1, h2⟩ := rens_len hm
   refine .tup (by rw [h1]; exact hl) fun i d' v hd hv => ?_
   obtain ⟨d0, e1, e2⟩ := h2 i d' hd
   exact ih i d0 v e1 hv e2
  ·cases h
theorem ren_relO {w : World} (hσ : ∀ i k, lookN i σ = some k → γ' k = γ i) {o o' : O} {vc g} (h : o.ren σ = some (vc, o')) (hvc : all vc) (hr : RelO F γ w o g) : RelO F γ' w o' g := by
 cases hr with
 | dead => simp only [O.ren, Option.some.injEq, Prod.mk.injEq] at h; obtain ⟨_, rfl⟩ := h; exact .dead
 | map h1 h2 h3 => simp only [O.ren, Option.some.injEq, Prod.mk.injEq] at h; obtain ⟨_, rfl⟩ := h; exact .map h1 h2 h3
 | box h1 h2 =>
  simp only [O.ren] at h
  split at h
  ·rename_i e he
   simp only [Option.some.injEq, Prod.mk.injEq] at h
   obtain ⟨_, rfl⟩ := h
   exact .box h1 (ren_relD hσ he h2)
  ·cases h
 | arr0 => simp only [O.ren, Option.some.injEq, Prod.mk.injEq] at h; obtain ⟨_, rfl⟩ := h; exact .arr0
 | arr h1 h2 h3 h4 h5 =>
  simp only [O.ren, Option.some.injEq, Prod.mk.injEq] at h
  obtain ⟨rfl, rfl⟩ := h
  simp only [all] at hvc
  refine .arr h1 h2 h3 h4 fun i hi => ?_
  exact ren_relD hσ (hvc i hi) (h5 i hi)
theorem ren_free {σ : List (Nat × Nat)} {o o' : O} {vc} (h : o.ren σ = some (vc, o')) : o' ≠ .free := by
 intro e
 subst e
 cases o with
 | free => simp [O.ren] at h
 | dead => simp [O.ren] at h
 | box d =>
  simp only [O.ren] at h
  split at h <;> simp at h
 | arr => simp [O.ren] at h
 | map => simp [O.ren] at h
theorem renE_get : ∀ {E E' : Env} {t : Nat} {g d'}, renE σ E = some E' → E'.get t = some (g, d') → g = none ∧ ∃ d, E.get t = some (none, d) ∧ d.ren σ = some d'
 | [], _, _, _, _, h, hg => by simp only [renE, Option.some.injEq] at h; subst h; cases hg
 | (u, g0, d0) :: E, E', t, g, d', h, hg => by
  simp only [renE] at h
  split at h
  ·rename_i e E1 _ he hE
   simp only [Option.some.injEq] at h
   subst h
   simp only [Env.get] at hg ⊢
   cases hb : Nat.beq u t with
   | true =>
    rw [hb] at hg
    simp only [cond_true, Option.some.injEq, Prod.mk.injEq] at hg
    obtain ⟨rfl, rfl⟩ := hg
    exact ⟨rfl, d0, rfl, he⟩
   | false =>
    rw [hb] at hg
    exact renE_get hE hg
  ·cases h
theorem renH_get {H : List O} : ∀ {ρ : List Nat} {vc H'}, renH σ H ρ = some (vc, H') → all vc → H'.length = ρ.length ∧ ∀ (k : Nat) o', H'[k]? = some o' → ∃ i o vc', ρ[k]? = some i ∧ H[i]? = some o ∧ o.ren σ = some (vc', o') ∧ all vc'
 | [], vc, H', h, _ => by
  simp only [renH, Option.some.injEq, Prod.mk.injEq] at h
  obtain ⟨_, rfl⟩ := h
  exact ⟨rfl, fun k o' h => by simp at h⟩
 | i :: ρ, vc, H', h, hvc => by
  simp only [renH] at h
  split at h
  ·rename_i o vc1 H1 ho hH
   split at h
   ·rename_i vc2 o2 ho2
    simp only [Option.some.injEq, Prod.mk.injEq] at h
    obtain ⟨rfl, rfl⟩ := h
    rw [all_append] at hvc
    obtain ⟨h1, h2⟩ := renH_get hH hvc.2
    refine ⟨by simp [h1], fun k o' hk => ?_⟩
    cases k with
    | zero =>
     simp only [List.getElem?_cons_zero, Option.some.injEq] at hk
     subst hk
     exact ⟨i, o, vc2, rfl, ho, ho2, hvc.1⟩
    | succ k =>
     obtain ⟨j, o1, vc3, e1, e2⟩ := h2 k o' (by simpa using hk)
     exact ⟨j, o1, vc3, by simpa using e1, e2⟩
   ·cases h
  ·cases h
end
theorem nodupN_spec : ∀ {l : List Nat}, nodupN l = true → ∀ (i j x : Nat), l[i]? = some x → l[j]? = some x → i = j
 | [], _, i, j, x, h1, _ => by simp at h1
 | a :: l, h, i, j, x, h1, h2 => by
  simp only [nodupN, Bool.and_eq_true, Bool.not_eq_true', List.any_eq_false] at h
  cases i with
  | zero =>
   cases j with
   | zero => rfl
   | succ j =>
    simp only [List.getElem?_cons_zero, Option.some.injEq, List.getElem?_cons_succ] at h1 h2
    exact absurd (by rw [h1]; exact Nat.beq_refl x) (h.1 x (List.mem_of_getElem? h2))
  | succ i =>
   cases j with
   | zero =>
    simp only [List.getElem?_cons_zero, Option.some.injEq, List.getElem?_cons_succ] at h1 h2
    exact absurd (by rw [h2]; exact Nat.beq_refl x) (h.1 x (List.mem_of_getElem? h1))
   | succ j => rw [nodupN_spec h.2 i j x (by simpa using h1) (by simpa using h2)]
def prefixN : Nat → List Nat → Nat → Bool
 | 0, _, _ => true
 | m + 1, i :: l, k => Nat.beq i k && prefixN m l (k + 1)
 | _ + 1, [], _ => false
theorem prefixN_spec : ∀ {m : Nat} {l : List Nat} {k : Nat}, prefixN m l k = true → ∀ i, i < m → l[i]? = some (k + i)
 | 0, _, _, _, i, h => by omega
 | m + 1, a :: l, k, h, i, hi => by
  simp only [prefixN, Bool.and_eq_true] at h
  cases i with
  | zero => simp [Nat.eq_of_beq_eq_true h.1]
  | succ i =>
   have := prefixN_spec h.2 i (by omega)
   rw [List.getElem?_cons_succ, this]
   congr 1; omega
 | m + 1, [], k, h, _, _ => by cases h
def weak (m0 : Nat) (ρ ts : List Nat) (E : Env) (H : List O) : Option (List VP × Env × List O) :=
 if nodupN ρ && prefixN m0 ρ 0 then match proj E ts with
  | some E1 => match renE (numbered ρ 0) E1, renH (numbered ρ 0) H ρ with
   | some E2, some (vc, H2) => some (vc, E2, H2)
   | _, _ => none
  | none => none
 else none
theorem sl_weak {C : Cx} {E E' : Env} {H H' : List O} {vc} {a : Act} {w : World} (ρ ts : List Nat) (h : weak C.γ0.length ρ ts E H = some (vc, E', H')) (hvc : all vc) (hS : SL C E H a w) (hB : prefixN C.B.n ρ 0 = true := by rfl) : SL C E' H' a w := by
 unfold weak at h
 split at h
 ·rename_i hc
  simp only [Bool.and_eq_true] at hc
  split at h
  ·rename_i E1 hE1
   split at h
   ·rename_i E2 vc' H2 h1 h2
    simp only [Option.some.injEq, Prod.mk.injEq] at h
    obtain ⟨rfl, rfl, rfl⟩ := h
    obtain ⟨⟨F, γ, hH, hE⟩, hN, hD⟩ := hS
    obtain ⟨g1, g2⟩ := renH_get h2 hvc
    let γ' : Gm := fun k => match ρ[k]? with
     | some i => γ i
     | none => none
    have hγ : ∀ (k i : Nat), ρ[k]? = some i → γ' k = γ i := fun k i hk => by simp only [γ', hk]
    have hσ : ∀ i k, lookN i (numbered ρ 0) = some k → γ' k = γ i := by
     intro i k hk
     obtain ⟨_, h2⟩ := look_numbered hk
     exact hγ k i (by simpa using h2)
    refine ⟨⟨F, γ', ?_, ?_⟩, hN, hD⟩
    ·have back : ∀ (k : Nat) o' g, H2[k]? = some o' → γ' k = some g → ∃ i o vc', ρ[k]? = some i ∧ H[i]? = some o ∧ o.ren (numbered ρ 0) = some (vc', o') ∧ all vc' ∧ γ i = some g := by
      intro k o' g h3 h4
      obtain ⟨i, o, vc', e1, e2, e3, e4⟩ := g2 k o' h3
      exact ⟨i, o, vc', e1, e2, e3, e4, by rw [← hγ k i e1]; exact h4⟩
     have alive_eq : ∀ {o o' : O} {vc'}, o.ren (numbered ρ 0) = some (vc', o') → o'.alive = true → o.alive = true := by
      intro o o' vc' h3 h4
      cases o with
      | free => simp [O.ren] at h3
      | dead => simp only [O.ren, Option.some.injEq, Prod.mk.injEq] at h3; rw [← h3.2] at h4; exact h4
      | _ => rfl
     have pre := fun i hi => prefixN_spec hc.2 i hi
     exact {
      sub := hH.sub
      base := C.B.loc (fun i hi => hγ i i (by simpa using prefixN_spec hB i hi)) hH.base
      glob := hH.glob
      ext := hH.ext
      top := fun k hk => by
       have : ρ[k]? = none := List.getElem?_eq_none (by omega)
       simp only [γ', this]
      free := fun k hk => by
       obtain ⟨i, o, vc', e1, e2, e3, e4⟩ := g2 k _ hk
       exact absurd rfl (ren_free e3)
      obj := fun k o' g h3 h4 => by
       obtain ⟨i, o, vc', e1, e2, e3, e4, e5⟩ := back k o' g h3 h4
       exact ren_relO hσ e3 e4 (hH.obj i o g e2 e5)
      apart := fun k o' g b h3 ha h4 hb => by
       obtain ⟨i, o, vc', e1, e2, e3, e4, e5⟩ := back k o' g h3 h4
       obtain ⟨a1, a2, a3⟩ := hH.apart i o g b e2 (alive_eq e3 ha) e5 hb
       refine ⟨a1, a2, fun hk => a3 ?_⟩
       rcases Nat.lt_or_ge i C.γ0.length with h' | h'
       ·have := pre i h'
        rw [Nat.zero_add] at this
        have := nodupN_spec hc.1 k i i e1 this
        omega
       ·exact h'
      given := fun i hi => by
       have := pre i hi
       rw [Nat.zero_add] at this
       rw [hγ i i this]; exact hH.given i hi
      dis := fun j k o1 o2 g1' g2' b h3 h4 hjk a1 a2 k1 k2 hb => by
       obtain ⟨i, o, vc', e1, e2, e3, e4, e5⟩ := back j o1 g1' h3 k1
       obtain ⟨i', o', vc'', f1, f2, f3, f4, f5⟩ := back k o2 g2' h4 k2
       exact hH.dis i i' o o' g1' g2' b e2 f2 (fun e => hjk (nodupN_spec hc.1 j k i e1 (by rw [e]; exact f1))) (alive_eq e3 a1) (alive_eq f3 a2) e5 f5 hb
      os := hH.os
      tape := hH.tape
      output := hH.output
      grows := hH.grows
      block := hH.block
      raw := fun bb x hx => by
       obtain ⟨q1, q2, q3⟩ := hH.raw bb x hx
       refine ⟨q1, q2, fun k o' g h3 ha h4 => ?_⟩
       obtain ⟨i, o, vc', e1, e2, e3, e4, e5⟩ := back k o' g h3 h4
       exact q3 i o g e2 (alive_eq e3 ha) e5
      live := fun k o' h3 ha => by
       obtain ⟨i, o, vc', e1, e2, e3, e4⟩ := g2 k o' h3
       obtain ⟨g, hg⟩ := hH.live i o e2 (alive_eq e3 ha)
       exact ⟨g, by rw [hγ k i e1]; exact hg⟩ }
    ·intro t g d' hg
     obtain ⟨rfl, d, hd, hr⟩ := renE_get h1 hg
     obtain ⟨v, k1, k2⟩ := (hE _ _ _ (proj_get hE1 hd)).1 trivial
     exact ⟨fun _ => ⟨v, k1, ren_relV hσ hr k2⟩, fun hn => absurd trivial hn⟩
   ·cases h
  ·cases h
 ·cases h
end
end Go.Eng
namespace Go.Eng
open Go.RowKit
def Pure (P : Program) (f : FuncId) (args : List PV) (res : D) : Prop :=
 ∀ (F : PHeap) (w : World) (vs : List Value), Sub F w → Glob F → vs.length = args.length → (∀ (i : Nat) p v, args[i]? = some p → vs[i]? = some v → RelV F noG (.p p) v) →
  Calls P f vs.toArray w fun e w' => ∃ v F', e = .returned v ∧ Sub F' w' ∧ (∀ b, b < w.heap.size → F' b = F b) ∧ Grew w w' ∧ RelV F' noG res v
section
variable {C : Cx} {E E' : Env} {H H' : List O} {Q : Exit → Act → World → Prop} {a : Act} {w : World}
/-! ### Calls -/
def callable (P : Program) (f : FuncId) : Bool := match P.funcs[f]? with
 | some fn => !(fn.name == "runtime.NumGoroutine") && fn.body.isSome
 | none => false
theorem run_callFunc {P : Program} {f : FuncId} (h : callable P f = true) (args : Array Value) (w : World) : (callFunc f args).run P w = .ok (.enter f args) w := by
 unfold callable at h
 split at h
 ·rename_i fn hf
  simp only [Bool.and_eq_true, Bool.not_eq_true'] at h
  obtain ⟨h1, h2⟩ := h
  obtain ⟨c, hc⟩ := Option.isSome_iff_exists.1 h2
  simp only [callFunc, program, Sem.run_bind, Sem.run, Result.andThen_ok, hf, h1, hc, Option.isNone_some, Bool.false_eq_true, if_false, Sem.run_pure]
 ·cases h
def argPs (E : Env) : List Operand → Option (List PV)
 | [] => some []
 | .tmp t :: l => match E.get t, argPs E l with
  | some (none, .p x), some r => some (x :: r)
  | _, _ => none
 | .const v :: l => match constD v, argPs E l with
  | some (.p x), some r => some (x :: r)
  | _, _ => none
 | _ :: _ => none
theorem resolve_call {P : Program} {ρ : Operand → Value} {o : Oper} {f : FuncId} {args : Array Operand} {ts : Array TypeId} (ho : o.op = .call ⟨.value (.func f), args, ts⟩) (hρ : ρ (.func f) = .func (.func f) #[] #[]) (hf : callable P f = true) (w : World) :
  (execOp ρ o).run P w = .ok (.enter f (args.map ρ)) w := by
 have := run_callFunc hf (args.map ρ) w
 simp [execOp, ho, resolve, Deferred.ofValue, hρ, invoke, this]
/-! ### What is said of a slot or an object, said otherwise -/
theorem free_end (H : List O) : isFree H H.length = true := by
 unfold isFree
 rw [List.getElem?_eq_none (Nat.le_refl _)]
theorem sl_nil (t e sz : Nat) (f : Nat → D) (ht : E.get t = some (none, .p (.v (.slice none 0 0)))) (hS : SL C E H a w) : SL C ((t, none, .own H.length) :: E) (putH H H.length (.arr e sz 0 f)) a w := by
 obtain ⟨⟨F, γ, h, hE⟩, hN, hD⟩ := hS
 refine ⟨⟨F, updG γ H.length (.slice none 0 0), h.push (free_end H) (fun e => by cases e) (Grew.refl w) (fun b hb => by cases hb) .arr0, ?_⟩, hN, hD⟩
 intro u g d hu
 simp only [Env.get] at hu
 cases hb : Nat.beq t u with
 | true =>
  rw [hb] at hu
  simp only [cond_true, Option.some.injEq, Prod.mk.injEq] at hu
  obtain ⟨rfl, rfl⟩ := hu
  rw [← Nat.eq_of_beq_eq_true hb]
  obtain ⟨v, e1, e2⟩ := (hE _ _ _ ht).1 trivial
  rw [v_val e2] at e1
  exact ⟨fun _ => ⟨_, e1, .one rfl (.own (g := .slice none 0 0) upd_self rfl)⟩, fun hn => absurd trivial hn⟩
 | false =>
  rw [hb] at hu
  obtain ⟨k1, k2⟩ := hE u g d hu
  refine ⟨fun hg => ?_, k2⟩
  obtain ⟨v, e1, e2⟩ := k1 hg
  exact ⟨v, e1, e2.mono (fun _ _ x => x) (upd_old (h.top _ (Nat.le_refl _)))⟩
/-! ### Freezing: a slice of one's own becomes data at rest -/
mutual
def D.frz (i : Nat) (p : PV) : D → Option D
 | .p x => some (.p x)
 | .agg l => match D.frzs i p l with
  | some m => some (mkAgg m)
  | none => none
 | .vec _ _ _ => none
 | .tup l => match D.frzs i p l with
  | some m => some (.tup m)
  | none => none
 | .own j => bif Nat.beq j i then some (.p p) else some (.own j)
 | .ref j path => bif Nat.beq j i then (match path, p with
   | [], .pel x => some (.p (.pel x))
   | _, _ => some (.ref j path)) else some (.ref j path)
 | .part j n => some (.part j n)
 | .fn f first caps => match D.frzs i p first, D.frzs i p caps with
  | some l, some m => some (.fn f l m)
  | _, _ => none
def D.frzs (i : Nat) (p : PV) : List D → Option (List D)
 | [] => some []
 | d :: l => match d.frz i p, D.frzs i p l with
  | some e, some m => some (e :: m)
  | _, _ => none
end
def O.frz (i : Nat) (p : PV) (mp : Bool) : O → Option (List VP × O)
 | .free => some ([], .free)
 | .dead => some ([], .dead)
 | .map kd f => some ([], .map kd f)
 | .box d => match d.frz i p with
  | some e => some ([], .box e)
  | none => none
 | .arr e sz n f => bif mp then some ([], .arr e sz n fun j => ((f j).frz i p).getD (f j)) else some ([], .arr e sz n f)
def frzE (i : Nat) (p : PV) : Env → Option Env
 | [] => some []
 | (t, g, d) :: E => match g, d.frz i p, frzE i p E with
  | none, some e, some E' => some ((t, none, e) :: E')
  | _, _, _ => none
def frzH (i : Nat) (p : PV) (fi : List Nat) : Nat → List O → Option (List VP × List O)
 | _, [] => some ([], [])
 | k, o :: H => match o.frz i p (fi.any (Nat.beq k)), frzH i p fi (k + 1) H with
  | some (vc, o'), some (vc', H') => some (vc ++ vc', o' :: H')
  | _, _ => none
section
variable {F F' : PHeap} {γ : Gm} {i : Nat} {p : PV}
mutual
theorem frz_relD (hF : ∀ b c, F b = some c → F' b = some c) (hp : ∀ v, γ i = some v → RelP F' p [v]) (hq : ∀ x v, p = .pel x → γ i = some v → ∃ b, v = .pointer (some ⟨b, 0, none⟩)) : ∀ {d d' : D} {cs}, d.frz i p = some d' → RelD F γ d cs → RelD F' γ d' cs
 | .p x, d', cs, h, hr => by simp only [D.frz, Option.some.injEq] at h; subst h; exact hr.mono hF (fun _ _ x => x)
 | .agg l, d', cs, h, hr => by
  simp only [D.frz] at h
  split at h
  ·rename_i m hm
   simp only [Option.some.injEq] at h
   subst h
   exact mkAgg_rel (frzs_relD hF hp hq hm hr)
  ·cases h
 | .vec _ _ _, _, _, h, _ => by simp [D.frz] at h
 | .tup _, _, _, _, hr => by cases hr
 | .own j, d', cs, h, hr => by
  simp only [D.frz] at h
  cases hr with
  | own h1 h2 =>
   cases hb : Nat.beq j i with
   | true =>
    rw [hb] at h
    simp only [cond_true, Option.some.injEq] at h
    subst h
    rw [Nat.eq_of_beq_eq_true hb] at h1
    exact .p (hp _ h1)
   | false =>
    rw [hb] at h
    simp only [cond_false, Option.some.injEq] at h
    subst h
    exact .own h1 h2
 | .ref j path, d', cs, h, hr => by
  simp only [D.frz] at h
  cases hb : Nat.beq j i with
  | false => rw [hb] at h; simp only [cond_false, Option.some.injEq] at h; subst h; exact hr.mono hF (fun _ _ x => x)
  | true =>
   rw [hb] at h
   simp only [cond_true] at h
   split at h
   ·rename_i x
    simp only [Option.some.injEq] at h
    subst h
    obtain rfl := Nat.eq_of_beq_eq_true hb
    cases hr with
    | @ref _ _ g b h1 h2 =>
     obtain ⟨b', rfl⟩ := hq _ g rfl h1
     simp only [blk, Option.some.injEq] at h2
     subst h2
     exact .p (hp _ h1)
   ·simp only [Option.some.injEq] at h; subst h; exact hr.mono hF (fun _ _ x => x)
 | .part j n, d', cs, h, hr => by simp only [D.frz, Option.some.injEq] at h; subst h; exact hr.mono hF (fun _ _ x => x)
 | .fn f fi caps, d', cs, h, hr => by
  simp only [D.frz] at h
  split at h
  ·rename_i l m hl hm
   simp only [Option.some.injEq] at h
   subst h
   cases hr with | fn h1 h2 => exact .fn (frzs_relD hF hp hq hl h1) (frzs_relD hF hp hq hm h2)
  ·cases h
theorem frzs_relD (hF : ∀ b c, F b = some c → F' b = some c) (hp : ∀ v, γ i = some v → RelP F' p [v]) (hq : ∀ x v, p = .pel x → γ i = some v → ∃ b, v = .pointer (some ⟨b, 0, none⟩)) : ∀ {l m : List D} {cs}, D.frzs i p l = some m → RelD F γ (.agg l) cs → RelD F' γ (.agg m) cs
 | [], m, cs, h, hr => by simp only [D.frzs, Option.some.injEq] at h; subst h; cases hr; exact .nil
 | d :: l, m, cs, h, hr => by
  simp only [D.frzs] at h
  split at h
  ·rename_i e m' he hm
   simp only [Option.some.injEq] at h
   subst h
   cases hr with | cons h1 h2 => exact .cons (frz_relD hF hp hq he h1) (frzs_relD hF hp hq hm h2)
  ·cases h
end
theorem frz_many (hp : p.many = false) {d d' : D} (h : d.frz i p = some d') : d'.many = d.many := by
 cases d with
 | p x => simp only [D.frz, Option.some.injEq] at h; subst h; rfl
 | agg l =>
  simp only [D.frz] at h
  split at h
  ·simp only [Option.some.injEq] at h; subst h; exact mkAgg_many _
  ·cases h
 | vec => simp [D.frz] at h
 | tup l =>
  simp only [D.frz] at h
  split at h
  ·simp only [Option.some.injEq] at h; subst h; rfl
  ·cases h
 | own j =>
  simp only [D.frz] at h
  cases hb : Nat.beq j i with
  | true => rw [hb] at h; simp only [cond_true, Option.some.injEq] at h; subst h; exact hp
  | false => rw [hb] at h; simp only [cond_false, Option.some.injEq] at h; subst h; rfl
 | ref j path =>
  simp only [D.frz] at h
  cases hb : Nat.beq j i with
  | false => rw [hb] at h; simp only [cond_false, Option.some.injEq] at h; subst h; rfl
  | true =>
   rw [hb] at h
   simp only [cond_true] at h
   split at h
   ·simp only [Option.some.injEq] at h; subst h; rfl
   ·simp only [Option.some.injEq] at h; subst h; rfl
 | part j n => simp only [D.frz, Option.some.injEq] at h; subst h; rfl
 | fn f fi l =>
  simp only [D.frz] at h
  split at h
  ·simp only [Option.some.injEq] at h; subst h; rfl
  ·cases h
theorem frzs_len : ∀ {l m : List D}, D.frzs i p l = some m → m.length = l.length ∧ ∀ (k : Nat) d', m[k]? = some d' → ∃ d, l[k]? = some d ∧ d.frz i p = some d'
 | [], m, h => by simp only [D.frzs, Option.some.injEq] at h; subst h; exact ⟨rfl, fun i d' h => by simp at h⟩
 | d :: l, m, h => by
  simp only [D.frzs] at h
  split at h
  ·rename_i e m' he hm
   simp only [Option.some.injEq] at h
   subst h
   obtain ⟨h1, h2⟩ := frzs_len hm
   refine ⟨by simp [h1], fun i d' hi => ?_⟩
   cases i with
   | zero => simp only [List.getElem?_cons_zero, Option.some.injEq] at hi; subst hi; exact ⟨d, rfl, he⟩
   | succ i => exact h2 i d' (by simpa using hi)
  ·cases h
theorem frz_relV (hm : p.many = false) (hF : ∀ b c, F b = some c → F' b = some c) (hp : ∀ v, γ i = some v → RelP F' p [v]) (hq : ∀ x v, p = .pel x → γ i = some v → ∃ b, v = .pointer (some ⟨b, 0, none⟩)) {d d' : D} {v} (h : d.frz i p = some d') (hr : RelV F γ d v) : RelV F' γ d' v := by
 induction hr generalizing d' with
 | one h1 hr => exact .one (by rw [frz_many hm h]; exact h1) (frz_relD hF hp hq h hr)
 | many h1 hr => exact .many (by rw [frz_many hm h]; exact h1) (frz_relD hF hp hq h hr)
 | @tup ds vs hl _ ih =>
  simp only [D.frz] at h
  split at h
  ·rename_i m hm'
   simp only [Option.some.injEq] at h
   subst h
   obtain ⟨h1, h2⟩ := frzs_len hm'
   refine .tup (by rw [h1]; exact hl) fun k d' v hd hv => ?_
   obtain ⟨d0, e1, e2⟩ := h2 k d' hd
   exact ih k d0 v e1 hv e2
  ·cases h
theorem frz_relO {w : World} (hF : ∀ b c, F b = some c → F' b = some c) (hp : ∀ v, γ i = some v → RelP F' p [v]) (hq : ∀ x v, p = .pel x → γ i = some v → ∃ b, v = .pointer (some ⟨b, 0, none⟩)) {o o' : O} {mp vc g} (h : o.frz i p mp = some (vc, o')) (hr : RelO F γ w o g) : RelO F' γ w o' g := by
 cases hr with
 | dead => simp only [O.frz, Option.some.injEq, Prod.mk.injEq] at h; obtain ⟨_, rfl⟩ := h; exact .dead
 | map h1 h2 h3 => simp only [O.frz, Option.some.injEq, Prod.mk.injEq] at h; obtain ⟨_, rfl⟩ := h; exact .map h1 h2 ⟨h3.1, fun ks hk => (h3.2 ks hk).imp id fun ⟨i, v, p, q1, q2, q3, q4⟩ => ⟨i, v, p, q1, q2, q3, q4.mono hF⟩⟩
 | box h1 h2 =>
  simp only [O.frz] at h
  split at h
  ·rename_i e he
   simp only [Option.some.injEq, Prod.mk.injEq] at h
   obtain ⟨_, rfl⟩ := h
   exact .box h1 (frz_relD hF hp hq he h2)
  ·cases h
 | arr0 => cases mp <;> (simp only [O.frz, cond_true, cond_false, Option.some.injEq, Prod.mk.injEq] at h; obtain ⟨_, rfl⟩ := h; exact .arr0)
 | @arr _ _ _ f _ _ _ h1 h2 h3 h4 h5 =>
  cases mp with
  | false =>
   simp only [O.frz, cond_false, Option.some.injEq, Prod.mk.injEq] at h
   obtain ⟨_, rfl⟩ := h
   exact .arr h1 h2 h3 h4 fun k hk => (h5 k hk).mono hF (fun _ _ x => x)
  | true =>
   simp only [O.frz, cond_true, Option.some.injEq, Prod.mk.injEq] at h
   obtain ⟨_, rfl⟩ := h
   refine .arr h1 h2 h3 h4 fun k hk => ?_
   cases hd : (f k).frz i p with
   | none => exact (h5 k hk).mono hF (fun _ _ x => x)
   | some d => exact frz_relD hF hp hq hd (h5 k hk)
theorem frzE_get : ∀ {E E' : Env} {t : Nat} {g d'}, frzE i p E = some E' → E'.get t = some (g, d') → g = none ∧ ∃ d, E.get t = some (none, d) ∧ d.frz i p = some d'
 | [], _, _, _, _, h, hg => by simp only [frzE, Option.some.injEq] at h; subst h; cases hg
 | (u, g0, d0) :: E, E', t, g, d', h, hg => by
  simp only [frzE] at h
  split at h
  ·rename_i e E1 _ he hE
   simp only [Option.some.injEq] at h
   subst h
   simp only [Env.get] at hg ⊢
   cases hb : Nat.beq u t with
   | true =>
    rw [hb] at hg
    simp only [cond_true, Option.some.injEq, Prod.mk.injEq] at hg
    obtain ⟨rfl, rfl⟩ := hg
    exact ⟨rfl, d0, rfl, he⟩
   | false => rw [hb] at hg; exact frzE_get hE hg
  ·cases h
theorem frzH_get {fi : List Nat} : ∀ {H H' : List O} {k0 vc}, frzH i p fi k0 H = some (vc, H') → all vc → H'.length = H.length ∧ ∀ (k : Nat) o', H'[k]? = some o' → ∃ o mp vc', H[k]? = some o ∧ o.frz i p mp = some (vc', o') ∧ all vc'
 | [], H', _, vc, h, _ => by simp only [frzH, Option.some.injEq, Prod.mk.injEq] at h; obtain ⟨_, rfl⟩ := h; exact ⟨rfl, fun k o' h => by simp at h⟩
 | o :: H, H', _, vc, h, hvc => by
  simp only [frzH] at h
  split at h
  ·rename_i vc1 o1 vc2 H1 ho hH
   simp only [Option.some.injEq, Prod.mk.injEq] at h
   obtain ⟨rfl, rfl⟩ := h
   rw [all_append] at hvc
   obtain ⟨h1, h2⟩ := frzH_get hH hvc.2
   refine ⟨by simp [h1], fun k o' hk => ?_⟩
   cases k with
   | zero => simp only [List.getElem?_cons_zero, Option.some.injEq] at hk; subst hk; exact ⟨o, _, vc1, rfl, ho, hvc.1⟩
   | succ k => exact h2 k o' (by simpa using hk)
  ·cases h
end
def freeze_ (m0 : Nat) (fi : List Nat) (i : Nat) (g : Nat → PV) (E : Env) (H : List O) : Option (List VP × Env × List O) :=
 match H[i]? with
 | some (.arr _ sz n f) => if m0 ≤ i then match frzE i (.lst sz n g) E, frzH i (.lst sz n g) fi 0 (H.set i .dead) with
   | some E', some (vc, H') => some ((∀ j, j < n → f j = .p (g j)) :: vc, E', H')
   | _, _ => none
  else none
 | _ => none
theorem sl_frzG {vc E1 H1 fi} (i : Nat) (p : PV) (o0 : O) (hpm : p.many = false) (hi : H[i]? = some o0) (hoa : o0.alive = true) (h1 : frzE i p E = some E1) (h2 : frzH i p fi 0 (H.set i .dead) = some (vc, H1)) (hvc : all vc) (hS : SL C E H a w)
  (hpub : ∀ F γ, SLH C F γ H w → ∃ F' : PHeap, (∀ b c, F b = some c → F' b = some c) ∧ (∀ b, b < C.w0.heap.size → F' b = F b) ∧ Sub F' w ∧ (∀ b, (∀ x, γ i = some x → blk x ≠ some b) → F' b = F b) ∧ (∀ v, γ i = some v → RelP F' p [v]) ∧
   (∀ x v, p = .pel x → γ i = some v → ∃ b, v = .pointer (some ⟨b, 0, none⟩))) : SL C E1 H1 a w := by
 obtain ⟨⟨F, γ, hH, hE⟩, hN, hD⟩ := hS
 have hk := hH.kill i
 obtain ⟨F', hFF, hext, hsub, hfree, hp, hq⟩ := hpub F γ hH
 obtain ⟨l1, l2⟩ := frzH_get h2 hvc
 refine ⟨⟨F', γ, ?_, ?_⟩, hN, hD⟩
 ·have alive_eq : ∀ {o o' : O} {mp vc'}, o.frz i p mp = some (vc', o') → o'.alive = true → o.alive = true := by
   intro o o' mp vc' h3 h4
   cases o with
   | free => simp only [O.frz, Option.some.injEq, Prod.mk.injEq] at h3; rw [← h3.2] at h4; exact h4
   | dead => simp only [O.frz, Option.some.injEq, Prod.mk.injEq] at h3; rw [← h3.2] at h4; exact h4
   | _ => rfl
  exact {
   sub := hsub
   base := C.B.up hFF (fun _ _ x => x) hH.base
   glob := hH.glob.mono hFF
   ext := fun b hb => (hext b hb).trans (hH.ext b hb)
   top := fun k hk' => hk.top k (by rw [← l1]; exact hk')
   free := fun k hk' => by
    obtain ⟨o, mp, vc', q1, q2, q3⟩ := l2 k _ hk'
    have : o = .free := by
     cases o with
     | free => rfl
     | dead => simp [O.frz] at q2
     | box d => simp only [O.frz] at q2; split at q2 <;> simp at q2
     | arr => cases mp <;> simp [O.frz] at q2
     | map => simp [O.frz] at q2
    subst this
    exact hk.free k q1
   obj := fun k o' gk e1 e2 => by
    obtain ⟨o, mp, vc', q1, q2, q3⟩ := l2 k o' e1
    exact frz_relO hFF hp hq q2 (hk.obj k o gk q1 e2)
   apart := fun k o' gk b e1 e2 e3 e4 => by
    obtain ⟨o, mp, vc', q1, q2, q3⟩ := l2 k o' e1
    obtain ⟨r1, r2, r3⟩ := hk.apart k o gk b q1 (alive_eq q2 e2) e3 e4
    refine ⟨?_, r2, r3⟩
    rw [hfree b, r1]
    intro gx hγi hb
    rcases set_get q1 with ⟨_, x2, _⟩ | ⟨x1, x2⟩
    ·rw [x2] at q2
     simp only [O.frz, Option.some.injEq, Prod.mk.injEq] at q2
     rw [← q2.2] at e2; cases e2
    ·exact hH.dis k i o _ gk _ b x2 hi x1 (alive_eq q2 e2) hoa e3 hγi e4 hb
   given := hk.given
   dis := fun j k o1 o2 g1 g2 b e1 e2 hjk a1 a2 k1 k2 hb => by
    obtain ⟨o, mp, vc', q1, q2, q3⟩ := l2 j o1 e1
    obtain ⟨o', mp', vc'', r1, r2, r3⟩ := l2 k o2 e2
    exact hk.dis j k o o' g1 g2 b q1 r1 hjk (alive_eq q2 a1) (alive_eq r2 a2) k1 k2 hb
   os := hk.os
   tape := hk.tape
   output := hk.output
   grows := hk.grows
   block := hk.block
   raw := fun bb x hx => by
    obtain ⟨q1, q2, q3⟩ := hk.raw bb x hx
    refine ⟨q1, ?_, fun k o' gk e1 e2 e3 => ?_⟩
    ·rw [hfree bb (fun g hg => (hH.raw bb x hx).2.2 i o0 g hi hoa hg)]
     exact q2
    ·obtain ⟨o, mp, vc', r1, r2, r3⟩ := l2 k o' e1
     exact q3 k o gk r1 (alive_eq r2 e2) e3
   live := fun k o' e1 e2 => by
    obtain ⟨o, mp, vc', r1, r2, r3⟩ := l2 k o' e1
    exact hk.live k o r1 (alive_eq r2 e2) }
 ·intro t gd d' hg
  obtain ⟨rfl, d, hd, hr⟩ := frzE_get h1 hg
  obtain ⟨v, e1, e2⟩ := (hE _ _ _ hd).1 trivial
  exact ⟨fun _ => ⟨v, e1, frz_relV hpm hFF hp hq hr e2⟩, fun hn => absurd trivial hn⟩
theorem sl_freeze {vc fi} (i : Nat) (g : Nat → PV) (h : freeze_ C.γ0.length fi i g E H = some (vc, E', H')) (hvc : all vc) (hS : SL C E H a w) : SL C E' H' a w := by
 unfold freeze_ at h
 split at h
 ·rename_i e sz n f hi
  split at h
  ·rename_i hm0
   split at h
   ·rename_i E1 vc1 H1 h1 h2
    simp only [Option.some.injEq, Prod.mk.injEq] at h
    obtain ⟨rfl, rfl, rfl⟩ := h
    rw [all_cons] at hvc
    obtain ⟨hf, hvc⟩ := hvc
    refine sl_frzG i (.lst sz n g) _ rfl hi rfl h1 h2 hvc hS fun F γ hH => ?_
    have hO := fun g hγi => hH.obj i _ g hi hγi
    have hap := fun g hγi b => hH.apart i _ g b hi rfl hγi
    cases hγi : γ i with
    | none => exact ⟨F, fun _ _ x => x, fun _ _ => rfl, hH.sub, fun _ _ => rfl, (fun v hv => by cases hv), fun x v e => by cases e⟩
    | some gi =>
    have hO := hO gi hγi
    have hap := hap gi hγi
    cases hO with
    | arr0 => exact ⟨F, fun _ _ x => x, fun _ _ => rfl, hH.sub, fun _ _ => rfl, (fun v hv => by cases hv; exact .lst0), fun x v e => by cases e⟩
    | @arr _ _ _ _ b cap c k1 k2 k3 k4 k5 =>
     obtain ⟨a1, a2, a3⟩ := hap b rfl
     refine ⟨fun b' => if b' = b then some c else F b', fun b' c' hb => ?_, fun b' hb => ?_, fun b' c' hb => ?_, fun b' hb => ?_, fun v hv => ?_, fun x v e => by cases e⟩
     ·simp only
      rw [if_neg (fun e => by rw [e, a1] at hb; cases hb)]; exact hb
     ·have := a3 hm0
      simp only
      rw [if_neg (by omega)]
     ·simp only at hb
      split at hb
      ·rename_i e; cases hb; rw [e]; exact ⟨_, _, k1⟩
      ·exact hH.sub b' c' hb
     ·simp only
      rw [if_neg (fun e => hb _ rfl (by rw [e]; rfl))]
     ·cases hv
      refine .lst (b := b) (off := 0) (c := c) (by simp) k2 (by rw [k4, Nat.zero_add]; exact Nat.mul_le_mul_right _ k2) fun j hj => ?_
      have := k5 j hj
      rw [hf j hj] at this
      cases this with
      | p this =>
       rw [Nat.zero_add]
       refine this.mono fun b' c' hb => ?_
       rw [if_neg (fun e => by rw [e, a1] at hb; cases hb)]; exact hb
   ·cases h
  ·cases h
 ·cases h
end
end Go.Eng
namespace Go.Eng
open Go.RowKit
def resOne (tmps : Array Value) : ResultVar → Sem Value
 | .tmp t => pure (tmps.getD t undef)
 | .cell a t => do loadVar t (← asAddr (tmps.getD a undef))
theorem results_eq (fn : Func) (tmps : Array Value) : results fn tmps = (do
  let vs ← fn.results.mapM (resOne tmps)
  pure (if h : vs.size = 1 then vs[0] else .tuple vs)) := rfl
section
variable {C : Cx} {E E' : Env} {H H' : List O} {Q : Exit → Act → World → Prop} {a : Act} {w : World}
def evRes (P : Program) (H : List O) (E : Env) : ResultVar → Option (List VP × D)
 | .tmp t => match E.get t with
  | some (none, d) => some ([], d)
  | _ => none
 | .cell t ty => match E.get t with
  | some (none, .ref i path) => evLoad P H ty (.ref i path)
  | _ => none
def evRess (P : Program) (H : List O) (E : Env) : List ResultVar → Option (List VP × List D)
 | [] => some ([], [])
 | r :: l => match evRes P H E r, evRess P H E l with
  | some (vc, d), some (vc', ds) => some (vc ++ vc', d :: ds)
  | _, _ => none
def one (ds : List D) : D := match ds with
 | [d] => d
 | ds => .tup ds
theorem evRes_sound {F γ} (hS : SLH C F γ H w) (hE : SLE F γ E a) {r : ResultVar} {vc d} (h : evRes C.P H E r = some (vc, d)) (hvc : all vc) :
  ∃ v, RelV F γ d v ∧ (resOne a.tmps r).run C.P w = .ok v w := by
 cases r with
 | tmp t =>
  simp only [evRes] at h
  split at h
  ·rename_i d' hg
   simp only [Option.some.injEq, Prod.mk.injEq] at h
   obtain ⟨_, rfl⟩ := h
   obtain ⟨v, e1, e2⟩ := (hE _ _ _ hg).1 trivial
   refine ⟨v, e2, ?_⟩
   simp [resOne, Array.getD_eq_getD_getElem?, e1]
  ·cases h
 | cell s t =>
  simp only [evRes] at h
  split at h
  ·rename_i i path hg
   obtain ⟨v, e1, e2⟩ := (hE _ _ _ hg).1 trivial
   obtain ⟨u, h1, h2⟩ := evLoad_sound hS h hvc e2
   refine ⟨u, h1, ?_⟩
   have h3 := h2 w (Keep.refl w)
   cases e2 with
   | many hm => cases hm
   | one _ e2 =>
    cases e2 with
    | @ref _ _ g b e3 e4 =>
     simp only [Instr.loadAt, Instr.sureAddr, Sem.run_bind, Sem.run_pure, Result.andThen_ok] at h3
     have : a.tmps.getD s undef = .pointer (some ⟨b, offs path, none⟩) := by simp only [Array.getD_eq_getD_getElem?, e1, Option.getD_some]
     simp only [resOne, this, asAddr, Sem.run_bind, Sem.run_pure, Result.andThen_ok]
     exact h3
  ·cases h
theorem evRess_sound {F γ} (hS : SLH C F γ H w) (hE : SLE F γ E a) : ∀ {l : List ResultVar} {vc ds}, evRess C.P H E l = some (vc, ds) → all vc →
  ∃ vs : List Value, vs.length = ds.length ∧ (∀ (i : Nat) d v, ds[i]? = some d → vs[i]? = some v → RelV F γ d v) ∧
   (l.mapM (resOne a.tmps)).run C.P w = .ok vs w
 | [], vc, ds, h, _ => by
  simp only [evRess, Option.some.injEq, Prod.mk.injEq] at h
  obtain ⟨_, rfl⟩ := h
  exact ⟨[], rfl, fun i d v h => by simp at h, by simp⟩
 | r :: l, vc, ds, h, hvc => by
  simp only [evRess] at h
  split at h
  ·rename_i vc1 d vc2 ds2 h1 h2
   simp only [Option.some.injEq, Prod.mk.injEq] at h
   obtain ⟨rfl, rfl⟩ := h
   rw [all_append] at hvc
   obtain ⟨v, g1, g2⟩ := evRes_sound hS hE h1 hvc.1
   obtain ⟨vs, k1, k2, k3⟩ := evRess_sound hS hE h2 hvc.2
   refine ⟨v :: vs, by simp [k1], fun i d' v' hd hv => ?_, ?_⟩
   ·cases i with
    | zero =>
     simp only [List.getElem?_cons_zero, Option.some.injEq] at hd hv
     subst hd hv
     exact g1
    | succ i => exact k2 i d' v' (by simpa using hd) (by simpa using hv)
   ·rw [List.mapM_cons]
    simp only [Sem.run_bind, g2, Result.andThen_ok, k3, Sem.run_pure]
  ·cases h
theorem results_run {fn : Func} {vs : List Value} {w : World} (h : (fn.results.toList.mapM (resOne a.tmps)).run C.P w = .ok vs w) :
  (results fn a.tmps).run C.P w = .ok (if h : vs.length = 1 then vs[0] else .tuple vs.toArray) w := by
 rw [results_eq, Array.mapM_eq_mapM_toList]
 simp [h]
end
end Go.Eng
namespace Go.Eng
open Go.RowKit
section
variable {C : Cx} {E E' : Env} {H H' : List O} {Q : Exit → Act → World → Prop} {a : Act} {w : World}
theorem tr_pre {c : Code} (h : ∀ a w, SL C E H a w → SL C E' H' a w) (k : Tr C c E' H' Q) : Tr C c E H Q := fun a w hs => k a w (h a w hs)
theorem sl_set {d : D} (t : Nat) (d' : D) (ht : E.get t = some (none, d)) (h : eqD d d') (hS : SL C E H a w) : SL C ((t, none, d') :: E) H a w := by
 obtain ⟨⟨F, γ, hH, hE⟩, hN, hD⟩ := hS
 refine ⟨⟨F, γ, hH, fun u g d0 hu => ?_⟩, hN, hD⟩
 simp only [Env.get] at hu
 cases hb : Nat.beq t u with
 | true =>
  rw [hb] at hu
  simp only [cond_true, Option.some.injEq, Prod.mk.injEq] at hu
  obtain ⟨rfl, rfl⟩ := hu
  rw [← Nat.eq_of_beq_eq_true hb]
  obtain ⟨h1, h2⟩ := hE _ _ _ ht
  refine ⟨fun hg => ?_, h2⟩
  obtain ⟨v, k1, k2⟩ := h1 hg
  exact ⟨v, k1, eqD_rel h k2⟩
 | false => rw [hb] at hu; exact hE u g d0 hu
/-! ### Regions that draw: only reads in front, the rest in one order -/
end
end Go.Eng
