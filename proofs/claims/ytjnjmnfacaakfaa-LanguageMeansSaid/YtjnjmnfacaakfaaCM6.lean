/-
  LanguageMeans: whatever the input, the call returns true, and each argument reads afterwards as it read before. No conditions. (Part 6 of 8 of its proof.)
-/
import Derived.Test.YtjnjmnfacaakfaaCM5
import Derived.RangeFuncWrites
import Derived.OwnWalkIn
import Derived.Shelf.Abstract
import Derived.LoopNIn
import Derived.LoopIn
import Derived.Test.YtjnjmnfacaakfaaRows
namespace Go.Proofs.Ytjnjmnfacaakfaa
open Go.Eng Go.RowKit Go.Shelf
theorem fn3 {F : PHeap} {a b c : PV} {vs : List Value} (h : RelD F noG (.agg [.p (.pel a), .p (.pel b), .p (.pel c)]) vs) : ∃ v1 v2 v3, vs = [v1, v2, v3] ∧ RelP F (.pel a) [v1] ∧ RelP F (.pel b) [v2] ∧ RelP F (.pel c) [v3] := by
  have one : ∀ {x : PV} {cs : List Value}, RelD F noG (.p (.pel x)) cs → ∃ v, cs = [v] ∧ RelP F (.pel x) [v] := fun h => by
    cases h with
    | p h => cases h with
      | pel a1 a2 a3 => exact ⟨_, rfl, .pel a1 a2 a3⟩
  cases h with
  | cons h1 h =>
    cases h with
    | cons h2 h =>
      cases h with
      | cons h3 h =>
        cases h with
        | nil =>
          obtain ⟨v1, rfl, q1⟩ := one h1
          obtain ⟨v2, rfl, q2⟩ := one h2
          obtain ⟨v3, rfl, q3⟩ := one h3
          exact ⟨v1, v2, v3, rfl, q1, q2, q3⟩
theorem appendedK {W w1 : World} {bo B1 n0 : Nat} {v v' : Value} {k m : Nat} {xs ys : List Value} {tmp : Obj} (hv : Boxed W bo 28 v) (hrow : W.ownsRow B1 9 1 v k xs) (hBW : B1 ≤ W.heap.size) (hbo : bo < B1) (hn0 : n0 ≤ bo)
    (hown' : w1.ownsRow B1 9 1 v' m ys) (hgrow : (W.alloc tmp).grownBy w1 v.ownBlock) :
    Boxed w1 bo 28 v ∧ Boxed (w1.setCell ⟨bo, 0, none⟩ v') bo 28 v' ∧ (w1.setCell ⟨bo, 0, none⟩ v').ownsRow B1 9 1 v' m ys ∧ KeepsOthers W (w1.setCell ⟨bo, 0, none⟩ v') ∧ KpB bo B1 W (w1.setCell ⟨bo, 0, none⟩ v') ∧ Below n0 W (w1.setCell ⟨bo, 0, none⟩ v') := by
  have hv1 : Boxed w1 bo 28 v := (hv.alloc tmp).kept hgrow (hv.not_row (by decide) hrow)
  refine ⟨hv1, hv1.set v', hown'.kept (grownBy_setCell' w1 bo v') (.inr (hv1.not_row (by decide) hown').symm), ?_, ?_, ?_⟩
  · refine ((KeepsOthers.alloc W tmp).trans (KeepsOthers.of_grownBy hgrow fun j o ej hj => ?_)).trans (KeepsOthers.setCell _ _ _)
    rcases (hrow.alloc tmp).2 with ⟨rfl, _⟩ | ⟨g, cap, cur, rfl, _, hgb, _⟩
    · simp [Value.ownBlock] at ej
    · obtain rfl : g = j := by simpa [Value.ownBlock] using ej
      rw [hgb] at hj; cases hj; rfl
  · have hsz : W.heap.size ≤ w1.heap.size := by have := hgrow.size; simp at this; omega
    have hg2 := grownBy_setCell' w1 bo v'
    refine ⟨Nat.le_trans hsz hg2.size, fun i c T fz hi hne hor => ?_⟩
    have hlt : i < W.heap.size := (Array.getElem?_eq_some_iff.1 hi).1
    have e1 : (W.alloc tmp).heap[i]? = some (.cells c T fz) := (heap_alloc_old W tmp hlt).trans hi
    have e2 : w1.heap[i]? = (W.alloc tmp).heap[i]? := hgrow.block i (by simp; omega) (fun e => by
      rcases hrow.2 with ⟨rfl, _⟩ | ⟨g, cap, cur, rfl, hb, hgb, _⟩
      · simp [Value.ownBlock] at e
      · obtain rfl : i = g := by simpa [Value.ownBlock] using e
        rw [hgb] at hi
        cases hi
        rcases hor with h | h
        · omega
        · exact h rfl)
    exact (hg2.block i (by omega) (by simpa using hne)).trans (e2.trans e1)
  · refine (((Below.refl n0 W).alloc (by omega) tmp).grown hgrow (by simp; omega) fun j ej => ?_).setCell (p := ⟨bo, 0, none⟩) hn0 v'
    rcases hrow.2 with ⟨rfl, _⟩ | ⟨g, cap, cur, rfl, hb, _, _⟩
    · simp [Value.ownBlock] at ej
    · obtain rfl : g = j := by simpa [Value.ownBlock] using ej
      omega
def sV (x : List UInt8) : Value := .string ⟨x.toArray⟩
theorem info9 : (Try.prog.info? 9).map (fun i => (i.zero, i.size, i.bytes)) = some (some (.string ⟨#[]⟩), 1, 16) := by kernel_rfl
theorem underlying28 : Try.prog.underlying 28 = some (.slice 9) := by kernel_rfl
theorem first_fin {w W : World} {F : PHeap} {B1 : Nat} {v : Value} {pre : List (List UInt8)} (hs : Eng.Sub F w) (hB : Below w.heap.size w W) (hB1 : w.heap.size ≤ B1) (hrow : W.ownsRow B1 9 1 v pre.length (pre.map sV)) :
    ∃ F', Eng.Sub F' W ∧ (∀ k, k < w.heap.size → F' k = F k) ∧ Grew w W ∧ RelV F' noG (.p (eL eS 1 [] pre)) v := by
  have hsW : Eng.Sub F W := fun b c hb => by
    obtain ⟨T, fz, e⟩ := hs b c hb
    exact ⟨T, fz, (hB.block b (Array.getElem?_eq_some_iff.1 e).1).trans e⟩
  have hg := Grew.of_below hB
  rcases hrow.2 with ⟨rfl, h0⟩ | ⟨g, cap, cur, rfl, h1, h2, h3⟩
  · exact ⟨F, hsW, fun _ _ => rfl, hg, by
      have : pre = [] := List.length_eq_zero_iff.1 (by simpa using h0)
      subst this
      exact .one rfl (.p .lst0)⟩
  · obtain ⟨h3, h4, h5, h6⟩ := h3
    have hF : ∀ b c, F b = some c → (if b = g then some cur else F b) = some c := fun b c hb => by
      rw [if_neg (fun e => by obtain ⟨T, fz, e1⟩ := hs b c hb; have := (Array.getElem?_eq_some_iff.1 e1).1; omega)]; exact hb
    refine ⟨fun b => if b = g then some cur else F b, fun b c hb => ?_, fun k hk => ?_, hg, .one rfl (.p (.lst (b := g) (off := 0) (c := cur) (by simp) h3 (by omega) fun i hi => ?_))⟩
    · simp only at hb
      split at hb
      · rename_i e; cases hb; rw [e]; exact ⟨_, _, h2⟩
      · exact hsW b c hb
    · simp only
      rw [if_neg (by omega)]
    · have e1 : (cur.toList.drop (0 + i * 1)).take 1 = [sV (pre.getD i [])] := by
        have h7 : cur.toList[i]? = some (sV (pre.getD i [])) := by
          have := congrArg (fun l => l[i]?) h6
          simp only [List.getElem?_take, List.getElem?_map] at this
          rw [if_pos (by omega)] at this
          rw [this]
          simp [List.getD, List.getElem?_eq_getElem hi]
        obtain ⟨hlt, h8⟩ := List.getElem?_eq_some_iff.1 h7
        rw [show 0 + i * 1 = i by omega, List.drop_eq_getElem_cons hlt, h8]
        rfl
      rw [e1]
      exact .s
attribute [local go_sem] Oper.semAt_some
theorem cell_b {W : World} {B : Nat} {c : Array Value} {t : TypeId} (h : W.heap[B]? = some (.cells c t (0, 0))) {j : Nat} {v : Value} (hj : c[j]? = some v) : W.cell? ⟨B, j, none⟩ = some v := by
  have hlt := (Array.getElem?_eq_some_iff.1 hj).1
  simp [World.cell?, h, hj]
set_option maxRecDepth 100000 in
set_option maxHeartbeats 2000000 in
theorem First_go (l : Lang) (hok : check l = 0) (most : Int) (hm1 : 1 ≤ most) (F : PHeap) (w : World) (hs : Sub F w) (sa sn : Value) (hl : RelP F (eLang l) [sa, sn]) :
    Calls Try.prog 14 #[.agg #[sa, sn], .int .i64 most] w fun e w' => ∃ v F', e = .returned v ∧ Sub F' w' ∧ (∀ k, k < w.heap.size → F' k = F k) ∧ Grew w w' ∧ RelV F' noG (.p (eL eS 1 [] ((allW l).take (min most 100).toNat))) v := by
  refine (callsIn_wide (n := 3)).1 ?_
  refine callsIn_of_wp_marks Try.func14 rfl trivial ?_ rfl
  simp only [Try.ntmps14, List.size_toArray, List.length_cons, List.length_nil, Nat.reduceAdd, Nat.reduceSub, Array.replicate_succ, Array.replicate_zero, List.push_toArray, List.append_toArray, List.nil_append, List.cons_append]
  have hb0 : (w.alloc (.cells #[sa, sn] 32)).heap[w.heap.size]? = some (.cells #[sa, sn] 32 (0, 0)) := World.alloc_heap_new w _
  have hA : ((w.alloc (.cells #[sa, sn] 32)).alloc (.cells #[.int .i64 most] 3)).heap[w.heap.size]? = some (.cells #[sa, sn] 32 (0, 0)) := by
    rw [heap_alloc_old _ _ (by simp)]; exact hb0
  have hc0 := cell_b hA (j := 0) rfl
  have hc1 := cell_b hA (j := 1) rfl
  have hA1 : ((w.alloc (.cells #[sa, sn] 32)).alloc (.cells #[.int .i64 most] 3)).heap[w.heap.size + 1]? = some (.cells #[.int .i64 most] 3 (0, 0)) := by
    have := World.alloc_heap_new (w.alloc (.cells #[sa, sn] 32)) (.cells #[.int .i64 most] 3)
    rwa [World.size_alloc] at this
  have hgA : Grew w ((w.alloc (.cells #[sa, sn] 32)).alloc (.cells #[.int .i64 most] 3)) := (grew_alloc w _).trans (grew_alloc _ _)
  have hsA : Eng.Sub F ((w.alloc (.cells #[sa, sn] 32)).alloc (.cells #[.int .i64 most] 3)) := fun b c hb => by
    obtain ⟨T, fz, e⟩ := hs b c hb
    exact ⟨T, fz, (hgA.block b (Array.getElem?_eq_some_iff.1 e).1).trans e⟩
  have hrl : RelV F noG (.p (eLang l)) (.agg #[sa, sn]) := .many (cs := [sa, sn]) rfl (.p hl)
  have hck := check_ok l F _ [.agg #[sa, sn]] hsA rfl (fun i p v h1 h2 => by
    match i with
    | 0 => cases h1; cases h2; exact hrl
    | i + 1 => simp at h1)
  have hsz : ((w.alloc (.cells #[sa, sn] 32)).alloc (.cells #[.int .i64 most] 3)).heap.size = w.heap.size + 2 := by simp
  generalize hWA : (w.alloc (.cells #[sa, sn] 32)).alloc (.cells #[.int .i64 most] 3) = WA at *
  gi_wp2
  refine ⟨trivial, (callsIn_wide.2 hck).mono ?_⟩
  rintro e w1 ⟨v, F1, rfl, s1, x1, g1, r1⟩
  rw [hok] at r1
  obtain rfl := asInt_val (k := .i64) (n := 0) rfl r1
  have hB0 : w1.heap[w.heap.size]? = some (.cells #[sa, sn] 32 (0, 0)) := (g1.block _ (by omega)).trans hA
  have hB1 : w1.heap[w.heap.size + 1]? = some (.cells #[.int .i64 most] 3 (0, 0)) := (g1.block _ (by omega)).trans hA1
  have hm := cell_b hB1 (j := 0) rfl
  have hsz1 : w.heap.size + 2 ≤ w1.heap.size := by have := g1.size; omega
  have hC0 : (w1.alloc (.cells #[.slice none 0 0] 28)).heap[w.heap.size]? = some (.cells #[sa, sn] 32 (0, 0)) := (heap_alloc_old _ _ (by omega)).trans hB0
  have hd0 := cell_b hC0 (j := 0) rfl
  have hd1 := cell_b hC0 (j := 1) rfl
  gi_wp2
  have hg3 : Grew w1 (w1.alloc (.cells #[.slice none 0 0] 28)) := grew_alloc w1 _
  have s1' : Eng.Sub F1 (w1.alloc (.cells #[.slice none 0 0] 28)) := fun b c hb => by
    obtain ⟨T, fz, e⟩ := s1 b c hb
    exact ⟨T, fz, (hg3.block b (Array.getElem?_eq_some_iff.1 e).1).trans e⟩
  have hFF1 : ∀ b c, F b = some c → F1 b = some c := fun b c hb => by
    rw [x1 b (sub_lt (slh_base (P := Try.prog) (N := 0) hsA) hb)]; exact hb
  have hwd := words_ok l hok F1 _ [.agg #[sa, sn], .int .i64 12] s1' rfl (fun i p v h1 h2 => by
    match i with
    | 0 => cases h1; cases h2; exact .many (cs := [sa, sn]) rfl (.p (hl.mono hFF1))
    | 1 => cases h1; cases h2; exact relV_int
    | i + 2 => simp at h1)
  refine ⟨trivial, (callsIn_wide.2 hwd).mono ?_⟩
  rintro e w2 ⟨v, F2, rfl, s2, x2, g2, r2⟩
  obtain ⟨v1, v2, v3, rfl, q1, q2, q3⟩ : ∃ v1 v2 v3, v = .func (.func 49) #[] #[v1, v2, v3] ∧ RelP F2 (.pel (eL (eL eB 1 false) 1 [] (leadsL l 12))) [v1] ∧ RelP F2 (.pel (eLang l)) [v2] ∧ RelP F2 (.pel (.v (.int .i64 12))) [v3] := by
    cases r2 with
    | one _ r2 =>
      cases r2 with
      | fn r2 => obtain ⟨v1, v2, v3, rfl, q⟩ := fn3 r2; exact ⟨v1, v2, v3, rfl, q⟩
    | many hm => cases hm
  gi_wp2
  obtain ⟨i0, hi, hz0, hz1, hz2⟩ := info_parts info9
  have hsz3 : (w1.alloc (.cells #[.slice none 0 0] 28)).heap.size = w1.heap.size + 1 := by simp
  have hg2s := g2.size
  have hbo : w1.heap.size < w2.heap.size := by omega
  have hOut : Boxed w2 w1.heap.size 28 (.slice none 0 0) := (g2.block _ (by omega)).trans (World.alloc_heap_new w1 _)
  have hMost : Boxed w2 (w.heap.size + 1) 3 (.int .i64 most) := (g2.block _ (by omega)).trans ((heap_alloc_old _ _ (by omega)).trans hB1)
  have hgw : Grew w w2 := (((hWA ▸ hgA : Grew w WA).trans g1).trans hg3).trans g2
  have hBel : Below w.heap.size w w2 := hgw.below
  have hF2 : ∀ b c, F2 b = some c → b ≠ w1.heap.size ∧ b < w2.heap.size := fun b c hb => by
    refine ⟨fun e => ?_, sub_lt (slh_base (P := Try.prog) (N := 0) s2) hb⟩
    subst e
    have h1 := x2 w1.heap.size (by omega)
    rw [h1] at hb
    have := sub_lt (slh_base (P := Try.prog) (N := 0) s1) hb
    omega
  obtain ⟨mm, hmm⟩ : ∃ mm, mm = (min most 100).toNat := ⟨_, rfl⟩
  refine wpIn_rangeFunc_ownF (encs := fun x : List UInt8 => #[.string ⟨x.toArray⟩]) rfl (by omega) (gf := 49) (lb := #[v1, v2, v3]) rfl trivial (enters_of Try.func49 (by kernel_rfl) rfl)
    (words1_ok l hok F2 w1.heap.size w2.heap.size _ v1 v2 v3 w2 s2 rfl hbo hF2 q1 q2 q3) (fun h k => h.trans k) ?hKb (Below.refl _ _) (fun _ => rfl)
    (fun pre W => ((∃ v, Boxed W w1.heap.size 28 v ∧ W.ownsRow w2.heap.size 9 1 v pre.length (pre.map sV) ∧ True) ∧ Boxed W (w.heap.size + 1) 3 (.int .i64 most)) ∧ Below w.heap.size w W ∧ w2.heap.size ≤ W.heap.size ∧ pre.length < mm)
    (fun c pre W => ((∃ v, Boxed W w1.heap.size 28 v ∧ W.ownsRow w2.heap.size 9 1 v pre.length (pre.map sV) ∧ True) ∧ Boxed W (w.heap.size + 1) 3 (.int .i64 most)) ∧ Below w.heap.size w W ∧ w2.heap.size ≤ W.heap.size ∧ (pre.length = mm ∧ c = .exit 0))
    ?hI ?hIx ⟨⟨⟨_, hOut, World.ownsRow_nil _ _ _ _, trivial⟩, hMost⟩, hBel, Nat.le_refl _, by simp; omega⟩
    (fun x => { tmps := #[.agg #[sa, sn], .int .i64 most, .pointer (some ⟨w.heap.size, 0, none⟩), .pointer (some ⟨w.heap.size + 1, 0, none⟩), .slice none 0 0, .pointer (some ⟨w1.heap.size, 0, none⟩), .string ⟨x.toArray⟩, .agg #[sa, sn], .int .i64 0, .bool false, .bool false, .int .i64 most,
      .bool (decide (most < 1)), .bool (decide (most < 1)), .agg #[sa, sn], .func (.func 49) #[] #[v1, v2, v3], .string ⟨x.toArray⟩, undef, undef, undef, undef, undef, undef, undef, undef, undef, undef], defers := [] }) ?assign ?body ?done ?stop
  case hKb =>
    intro A k o o' hk ho hoc how
    refine ⟨by simp [World.putObj], fun i c T fz hi _ _ => ?_⟩
    exact (World.putObj_heap_other (fun e => by subst e; rw [hi] at ho; cases ho; cases hoc)).trans hi
  case hI =>
    rintro pre A A' row ⟨⟨h1, h2⟩, h3, h4, h5⟩ hg hr
    refine ⟨⟨holdsRow_own w2.heap.size w1.heap.size 28 9 1 (fun pre : List (List UInt8) => pre.length) (fun pre => pre.map sV) (fun _ _ => True) pre A A' row h1 hg (fun r e => (hr r e).2), Boxed.kept h2 hg (fun e => ?_)⟩, ownFrom_below (w₀ := w) (β := Unit) (Nat.le_refl _) (by omega) () A A' row h3 hg hr, Nat.le_trans h4 hg.size, h5⟩
    obtain ⟨_, o, ho, hoc⟩ := hr _ e.symm
    rw [show A.heap[w.heap.size + 1]? = _ from h2] at ho
    cases ho
    cases hoc
  case hIx =>
    intro c
    rintro pre A A' row ⟨⟨h1, h2⟩, h3, h4, h5⟩ hg hr
    refine ⟨⟨holdsRow_own w2.heap.size w1.heap.size 28 9 1 (fun pre : List (List UInt8) => pre.length) (fun pre => pre.map sV) (fun _ _ => True) pre A A' row h1 hg (fun r e => (hr r e).2), Boxed.kept h2 hg (fun e => ?_)⟩, ownFrom_below (w₀ := w) (β := Unit) (Nat.le_refl _) (by omega) () A A' row h3 hg hr, Nat.le_trans h4 hg.size, h5⟩
    obtain ⟨_, o, ho, hoc⟩ := hr _ e.symm
    rw [show A.heap[w.heap.size + 1]? = _ from h2] at ho
    cases ho
    cases hoc
  case assign =>
    intro ly x W K hK
    gi_wp2
    exact hK
  case body =>
    rintro ly pre x W ⟨⟨⟨v, hv, hrow, _⟩, hMo⟩, hB, hW2, hlt⟩ _
    have hc := hv.cell
    have hmc := hMo.cell
    have h100 : pre.length < 100 := by clear hc hmc; omega
    have hb1 : pre.length + 1 ≤ maxLen := Nat.le_trans (show pre.length + 1 ≤ 100 by omega) (Nat.le_of_ble_eq_true rfl)
    have hb2 : (pre.length + 1) * 16 ≤ 140737488355328 := by omega
    have hb3 : w2.heap.size ≤ (W.alloc (.cells #[.string ⟨x.toArray⟩] 9)).heap.size := by rw [World.size_alloc]; omega
    have hwb : w.heap.size ≤ w1.heap.size := by omega
    have hmne : w.heap.size + 1 ≠ w1.heap.size := by omega
    have hmlt : w.heap.size + 1 < w2.heap.size := by omega
    gi_wp2_with (gi_at_builtin; refine wpListIn_append_own _ rfl _ _ 28 rfl w2.heap.size 9 i0 (.string ⟨#[]⟩) 1 16 underlying28 hi hz0 hz1 hz2 rfl (by decide) _ _ _ rfl (hrow.alloc _) ⟨W.heap.size, 0, none⟩ 1 1 [.string ⟨x.toArray⟩] rfl rfl (cell_one_new _ _ _) (by simp [Value.oneCell']) hb1 hb2 hb3 ?_; intro v' w1' hown' hgrow _; obtain ⟨g', cap', rfl⟩ := ownsRow_succ hown'; obtain ⟨hv1, hv2, hr2, hk2, hKp, hb2'⟩ := appendedK (n0 := w.heap.size) hv hrow hW2 hbo hwb hown' hgrow; have hc1 := hv1.cell; have hf1 := hv1.frozen; have hmo2 := hKp.2 _ _ _ _ hMo hmne (.inl hmlt); have hmc2 := Boxed.cell (B := w.heap.size + 1) (t := 3) (v := .int .i64 most) hmo2)
    · refine ⟨hk2, ⟨⟨_, hv2, by simpa [sV] using hr2, trivial⟩, hmo2⟩, hB.trans hb2', Nat.le_trans hW2 hKp.1, ?_, rfl⟩
      have he : ((pre.length : Int) + 1 == min most 100) = true := by assumption
      rw [beq_iff_eq] at he
      simp only [List.length_append, List.length_singleton]
      omega
    · refine ⟨hk2, hKp, ⟨⟨_, hv2, by simpa [sV] using hr2, trivial⟩, hmo2⟩, hB.trans hb2', Nat.le_trans hW2 hKp.1, ?_⟩
      have he : ((pre.length : Int) + 1 == min most 100) = false := by assumption
      rw [beq_eq_false_iff_ne] at he
      simp only [List.length_append, List.length_singleton]
      omega
  case done =>
    rintro D xs W hD rfl ⟨⟨⟨v, hv, hrow, _⟩, _⟩, hB, hW2, hlt⟩ hK
    have hc := hv.cell
    gi_wp2
    refine ⟨by simp, .inl ⟨_, _, rfl, run_takeDeferred hK, ?_⟩⟩
    obtain ⟨F', y1, y2, y3, y4⟩ := first_fin hs (hB.trans (belowK_b (w := w2) (by omega) W D _ (.deferred none) hD hK rfl rfl)) (by omega) (ownsRow_putObj hrow (.deferred none) hK rfl)
    refine ⟨_, results_tmp rfl _ _ _, _, F', rfl, y1, y2, y3, ?_⟩
    rw [List.take_of_length_le (by omega)]
    exact y4
  case stop =>
    rintro D c pre W hD hpre ⟨⟨⟨v, hv, hrow, _⟩, _⟩, hB, hW2, hlen, rfl⟩ hK
    have hc := hv.cell
    gi_wp2
    refine ⟨by simp, .inl ⟨_, _, rfl, run_takeDeferred hK, ?_⟩⟩
    obtain ⟨F', y1, y2, y3, y4⟩ := first_fin hs (hB.trans (belowK_b (w := w2) (by omega) W D _ (.deferred none) hD hK rfl rfl)) (by omega) (ownsRow_putObj hrow (.deferred none) hK rfl)
    refine ⟨_, results_tmp rfl _ _ _, _, F', rfl, y1, y2, y3, ?_⟩
    rw [← hmm, ← hlen, ← List.prefix_iff_eq_take.1 hpre]
    exact y4
end Go.Proofs.Ytjnjmnfacaakfaa
namespace Go.Proofs.Ytjnjmnfacaakfaa
open Go.Eng
theorem firstNone_ok (l : Lang) (most : Int) (hbad : (check l ≠ 0) ∨ (most < 1)) : Pure Try.prog 14 [eLang l, .v (.int .i64 most)] (.p ((eL eS 1 []) ([] : List (List UInt8)))) := by
  refine pure_of (fn := Try.f14) Try.func14 rfl rfl fun F_ W0_ => ?_
  refine tr_seq ?_
  refine tr_r (vc := []) (E' := [(2, none, .ref 0 []), (3, none, .ref 1 [])]) (H' := [.box (.p (eLang l)), .box (vint .i64 most)]) [] [] [2, 3] (by kernel_rfl) ?_ ?_
  · exact trivial
  refine tr_then ?_
  refine tr_seq ?_
  refine tr_seq ?_
  refine tr_r (vc := [Pure Try.prog 20 [eLang l] (vint .i64 (check l)), (!((check l) != 0)) = true → (!((check l) != 0)) = true, (!((check l) != 0)) = true → (!((check l) != 0)) = true]) (E' := [(2, none, .ref 0 []), (3, none, .ref 1 []), (13, none, vbool (((check l) != 0) || (decide (most < 1))))]) (H' := [.box (.p (eLang l)), .box (vint .i64 most)]) [] [(1, vint .i64 (check l))] [2, 3, 13] (by kernel_rfl) ?_ ?_
  · refine al ?_ (al ?_ (al ?_ (trivial)))
    · exact check_ok _
    · exact id
    · exact id
  refine tr_then ?_
  refine tr_condP (((check l) != 0) || (decide (most < 1))) (((check l) ≠ 0) ∨ (most < 1)) (by simp) (by kernel_rfl) (fun hc1 => ?_) (fun hc1 => ?_)
  · skip
    refine tr_seq ?_
    refine tr_r (vc := []) (E' := [(4, none, .p (.v (.slice none 0 0)))]) (H' := [.box (.p (eLang l)), .box (vint .i64 most)]) [] [] [4] (by kernel_rfl) ?_ ?_
    · exact trivial
    refine tr_then ?_
    refine tr_pre (E' := [(4, none, .p (.v (.slice none 0 0)))]) (H' := []) (fun A_ W_ hS => sl_weak (vc := []) [] [4] (by kernel_rfl) trivial hS) ?_
    refine tr_pre (E' := (4, none, .p ((eL eS 1 []) ([] : List (List UInt8)))) :: [(4, none, .p (.v (.slice none 0 0)))]) (H' := []) (fun A_ W_ hS => sl_set_imp (d := .p (.v (.slice none 0 0))) 4 (.p ((eL eS 1 []) ([] : List (List UInt8)))) (by kernel_rfl) ?_ hS) ?_
    · refine imp_nil ([] : List (List UInt8)) ?_
      first | rfl | (simp; done) | omega | (simp_all; done) | grind
    refine tr_pre (E' := [(4, none, .p ((eL eS 1 []) ([] : List (List UInt8))))]) (H' := []) (fun A_ W_ hS => sl_proj (ts := [4]) (by kernel_rfl) hS) ?_
    exact tr_return' (vc := []) (ds := [.p ((eL eS 1 []) ([] : List (List UInt8)))]) (by kernel_rfl) trivial (by kernel_rfl) (fun _ _ h => h)
  · exact absurd (hbad) hc1
def firstS (l : Lang) (most : Int) : List (List UInt8) := if (check l ≠ 0) ∨ (most < 1) then [] else (allW l).take (min most 100).toNat
theorem First_ok (l : Lang) (most : Int) : Pure Try.prog 14 [eLang l, .v (.int .i64 most)] (.p (eL eS 1 [] (firstS l most))) := by
  unfold firstS
  by_cases h : (check l ≠ 0) ∨ (most < 1)
  · rw [if_pos h]; exact firstNone_ok l most h
  · rw [if_neg h]
    rw [not_or, Classical.not_not] at h
    intro F w vs hs hlen hrel
    match vs, hlen with
    | [a, b], _ =>
      have h1 := hrel 0 _ a rfl rfl
      have h2 := hrel 1 _ b rfl rfl
      obtain rfl := asInt_val (k := .i64) (n := most) rfl h2
      cases h1 with
      | one hm => cases hm
      | @many _ cs _ h1 =>
        cases h1 with
        | p h1 =>
          have hl := h1.length
          match cs, hl, h1 with
          | [sa, sn], _, h1 =>
            exact (First_go l h.1 most (by omega) F w hs sa sn h1).mono fun e w' ⟨v, F', a, b, c, d, e⟩ => ⟨v, F', a, b, c, d, e⟩
end Go.Proofs.Ytjnjmnfacaakfaa
namespace Go.Proofs.Ytjnjmnfacaakfaa
open Go.Eng
def tabA : List (List UInt8) := [[97], [98], [99], [48], [91, 97, 45, 99, 93], [91, 97, 98, 93], [91, 48, 49, 93], [91, 45, 97, 93], [91, 97, 45, 102, 48, 45, 57, 93], [49], [102], [45]]
def tabB : List (List UInt8) := [[], [], [], [63], [43], [42]]
abbrev Pt := Draw × List UInt8
def pieceD (x : Pt) : Pt := (nextD (nextD x.1), x.2 ++ tabA.getD (nextV x.1 12).toNat [] ++ tabB.getD (nextV (nextD x.1) 6).toNat [])
def piecesD (x : Pt) : Nat → Pt
  | 0 => x
  | n + 1 => pieceD (piecesD x n)
def barD (k : Nat) (x : Pt) : Pt := if 0 < k then (x.1, x.2 ++ [124]) else x
def headD (k : Nat) (x : Pt) : Pt := (nextD (barD k x).1, (barD k x).2)
def branchD (k : Nat) (x : Pt) : Pt := piecesD (headD k x) (1 + nextV (barD k x).1 3).toNat
def branchesD (l : List Int) : Nat → Pt
  | 0 => (nextD { L := l, At := 0 }, [])
  | k + 1 => branchD k (branchesD l k)
def patS (l : List Int) : List UInt8 := (branchesD l (1 + nextV { L := l, At := 0 } 2).toNat).2
def OkD (l : List Int) (d : Draw) : Prop := d.L = l ∧ 0 ≤ d.At ∧ d.At ≤ l.length
theorem nextV_lt (d : Draw) {n : Int} (h : 0 < n) : 0 ≤ nextV d n ∧ nextV d n < n := by
  unfold nextV
  split
  · exact ⟨Int.emod_nonneg _ (by omega), Int.emod_lt_of_pos _ h⟩
  · omega
theorem nextD_ok {l : List Int} {d : Draw} (h : OkD l d) : OkD l (nextD d) := by
  obtain ⟨h1, h2, h3⟩ := h
  unfold nextD
  split
  · rename_i hlt
    rw [h1] at hlt
    exact ⟨h1, by show 0 ≤ d.At + 1; omega, by show d.At + 1 ≤ _; omega⟩
  · exact ⟨h1, h2, h3⟩
theorem tabA_len (n : Nat) : (tabA.getD n []).length ≤ 8 := by
  by_cases h : n < 12
  · have : ∀ k : Fin 12, (tabA.getD k.val []).length ≤ 8 := by decide +kernel
    exact this ⟨n, h⟩
  · have : tabA.getD n [] = [] := by simp [List.getD, List.getElem?_eq_none (show tabA.length ≤ n by show 12 ≤ n; omega)]
    rw [this]; simp
theorem tabB_len (n : Nat) : (tabB.getD n []).length ≤ 1 := by
  by_cases h : n < 6
  · have : ∀ k : Fin 6, (tabB.getD k.val []).length ≤ 1 := by decide +kernel
    exact this ⟨n, h⟩
  · have : tabB.getD n [] = [] := by simp [List.getD, List.getElem?_eq_none (show tabB.length ≤ n by show 6 ≤ n; omega)]
    rw [this]; simp
def OkP (l : List Int) (m : Nat) (x : Pt) : Prop := OkD l x.1 ∧ x.2.length ≤ m
theorem pieces_ok {l : List Int} {m : Nat} {x : Pt} (h : OkP l m x) : ∀ n, OkP l (m + 9 * n) (piecesD x n)
  | 0 => h
  | n + 1 => by
    have ih := pieces_ok h n
    refine ⟨nextD_ok (nextD_ok ih.1), ?_⟩
    have h1 := tabA_len (nextV (piecesD x n).1 12).toNat
    have h2 := tabB_len (nextV (nextD (piecesD x n).1) 6).toNat
    have h3 := ih.2
    show (_ ++ _ ++ _ : List UInt8).length ≤ _
    simp only [List.length_append]
    omega
theorem bar_ok {l : List Int} {m k : Nat} {x : Pt} (h : OkP l m x) : OkP l (m + 1) (barD k x) := by
  unfold barD
  split
  · exact ⟨h.1, by have := h.2; simp; omega⟩
  · exact ⟨h.1, by have := h.2; omega⟩
theorem head_ok {l : List Int} {m k : Nat} {x : Pt} (h : OkP l m x) : OkP l (m + 1) (headD k x) := ⟨nextD_ok (bar_ok h).1, (bar_ok (k := k) h).2⟩
theorem branches_ok (l : List Int) : ∀ k, OkP l (28 * k) (branchesD l k)
  | 0 => ⟨nextD_ok ⟨rfl, by show (0 : Int) ≤ 0; omega, by show (0 : Int) ≤ _; omega⟩, by simp [branchesD]⟩
  | k + 1 => by
    have h := pieces_ok (head_ok (k := k) (branches_ok l k)) (1 + nextV (barD k (branchesD l k)).1 3).toNat
    have h3 := nextV_lt (barD k (branchesD l k)).1 (n := 3) (by omega)
    exact ⟨h.1, by have := h.2; show (piecesD _ _).2.length ≤ _; omega⟩
theorem pattern_ok (l : List Int) (hb0 : l.length < 4611686018427387904) : Pure Try.prog 9 [(eL eI 1 0) l] (vstr (patS l)) := by
  have hv0 := nextV_lt ({ L := l, At := 0 } : Draw) (n := 2) (by omega)
  refine pure_of (fn := Try.f9) Try.func9 rfl rfl fun F_ W0_ => ?_
  refine tr_seq ?_
  refine tr_r (vc := []) (E' := [(0, none, .p ((eL eI 1 0) l))]) (H' := []) [] [] [0] (by kernel_rfl) ?_ ?_
  · exact trivial
  refine tr_then ?_
  refine tr_seq ?_
  refine tr_r (vc := []) (E' := [(3, none, .ref 0 [])]) (H' := [.box (.p (.agg [(eL eI 1 0) l, .v (.int .i64 0)]))]) [] [] [3] (by kernel_rfl) ?_ ?_
  · exact trivial
  refine tr_then ?_
  refine tr_seq ?_
  refine tr_r (vc := []) (E' := [(3, none, .ref 0 []), (4, none, vstr ([] : List UInt8))]) (H' := [.box (.p (.agg [(eL eI 1 0) l, .v (.int .i64 0)]))]) [] [] [3, 4] (by kernel_rfl) ?_ ?_
  · exact trivial
  refine tr_then ?_
  refine tr_seq ?_
  refine tr_r (vc := [Mut Try.prog 30 (.agg [(eL eI 1 0) l, .v (.int .i64 0)]) [.v (.int .i64 2)] (eDraw (nextD ({ L := l, At := 0 } : Draw))) (vint .i64 (nextV ({ L := l, At := 0 } : Draw) 2)), (IntKind.wrap .i64 ((1 : Int) + (nextV ({ L := l, At := 0 } : Draw) 2))) = ((1 : Int) + (nextV ({ L := l, At := 0 } : Draw) 2))]) (E' := [(3, none, .ref 0 []), (4, none, vstr ([] : List UInt8)), (5, none, vint .i64 ((1 : Int) + (nextV ({ L := l, At := 0 } : Draw) 2)))]) (H' := [.box (.p (eDraw (nextD ({ L := l, At := 0 } : Draw))))]) [(2, vint .i64 ((1 : Int) + (nextV ({ L := l, At := 0 } : Draw) 2)))] [(1, .tup [.p (eDraw (nextD ({ L := l, At := 0 } : Draw))), vint .i64 (nextV ({ L := l, At := 0 } : Draw) 2)])] [3, 4, 5] (by kernel_rfl) ?_ ?_
  · refine al ?_ (al ?_ (trivial))
    · exact next_ok ({ L := l, At := 0 } : Draw) 2 (by omega) (by omega) (by first | omega | (simp; done) | (simp; omega) | (simp_all; done) | (simp_all; omega)) (by first | omega | (simp; done) | (simp; omega) | (simp_all; done) | (simp_all; omega)) (by first | omega | (simp; done) | (simp; omega) | (simp_all; done) | (simp_all; omega))
    · exact wr64 (by omega) (by omega) (by omega)
  refine tr_then ?_
  refine tr_seq ?_
  refine tr_seq ?_
  refine tr_r (vc := []) (E' := [(3, none, .ref 0 []), (4, none, vstr ([] : List UInt8)), (5, none, vint .i64 ((1 : Int) + (nextV ({ L := l, At := 0 } : Draw) 2))), (6, none, vint .i64 0)]) (H' := [.box (.p (eDraw (nextD ({ L := l, At := 0 } : Draw))))]) [] [] [3, 4, 5, 6] (by kernel_rfl) ?_ ?_
  · exact trivial
  refine tr_then ?_
  refine tr_block ?_
  refine tr_loop (α := Nat) (fun z : Nat => (fun (k : Nat) => [(3, none, .ref 0 []), (4, none, vstr ((branchesD l k).2)), (5, none, vint .i64 ((1 : Int) + (nextV ({ L := l, At := 0 } : Draw) 2))), (6, none, vint .i64 ((k : Nat) : Int))]) z) (fun z : Nat => (fun (k : Nat) => [.box (.p (eDraw ((branchesD l k).1)))]) z) (fun z : Nat => (fun (k : Nat) => ((k : Int) ≤ 1 + nextV ({ L := l, At := 0 } : Draw) 2)) z) (fun z : Nat => (fun (k : Nat) => (1 + nextV ({ L := l, At := 0 } : Draw) 2 - k).toNat) z) 0 ?_ ?_ ?_
  · show ((0 : Int) ≤ 1 + nextV ({ L := l, At := 0 } : Draw) 2)
    · first | omega | (intro hg; simp at hg; omega) | (simp; done) | (simp_all; done) | (simp_all; omega) | grind
  · intro A_ W_ hS
    replace hS := sl_set (d := vstr ([] : List UInt8)) 4 (vstr ((branchesD l 0).2)) (by kernel_rfl) (eqD_str (by rfl)) hS
    replace hS := sl_set (d := vint .i64 0) 6 (vint .i64 ((0 : Nat) : Int)) (by kernel_rfl) (eqD_int (by first | omega | (intro hg; simp at hg; omega) | (simp; done) | (simp_all; done) | (simp_all; omega) | grind)) hS
    replace hS := sl_obj_imp (d := .p (eDraw (nextD ({ L := l, At := 0 } : Draw)))) 0 (.p (eDraw ((branchesD l 0).1))) (by kernel_rfl) (impC_eq (congrArg (fun x => D.p (eDraw x)) (a₁ := (nextD ({ L := l, At := 0 } : Draw))) (a₂ := ((branchesD l 0).1)) (by rfl))) hS
    exact sl_weak (vc := []) [0] [3, 4, 5, 6] (by kernel_rfl) trivial hS
  · intro z hz
    revert z; intro k hz
    have hz : ((k : Int) ≤ 1 + nextV ({ L := l, At := 0 } : Draw) 2) := hz
    have hi0_0 := hz
    have hok := branches_ok l k
    have hk2 : k ≤ 2 := by omega
    refine tr_seq ?_
    refine tr_seq ?_
    refine tr_r (vc := []) (E' := [(3, none, .ref 0 []), (4, none, vstr ((branchesD l k).2)), (5, none, vint .i64 ((1 : Int) + (nextV ({ L := l, At := 0 } : Draw) 2))), (6, none, vint .i64 ((k : Nat) : Int)), (17, none, vbool (decide (((k : Nat) : Int) < ((1 : Int) + (nextV ({ L := l, At := 0 } : Draw) 2)))))]) (H' := [.box (.p (eDraw ((branchesD l k).1)))]) [] [] [3, 4, 5, 6, 17] (by kernel_rfl) ?_ ?_
    · exact trivial
    refine tr_then ?_
    refine tr_condP (decide (((k : Nat) : Int) < ((1 : Int) + (nextV ({ L := l, At := 0 } : Draw) 2)))) (((k : Nat) : Int) < ((1 : Int) + (nextV ({ L := l, At := 0 } : Draw) 2))) (by simp) (by kernel_rfl) (fun hc1 => ?_) (fun hc1 => ?_)
    · skip
      refine tr_skip ?_
      refine tr_then ?_
      refine tr_seq ?_
      refine tr_block ?_
      refine tr_join (α := Unit) (fun z : Unit => [(3, none, .ref 0 []), (4, none, vstr ((barD k (branchesD l k)).2)), (5, none, vint .i64 ((1 : Int) + (nextV ({ L := l, At := 0 } : Draw) 2))), (6, none, vint .i64 ((k : Nat) : Int))]) (fun z : Unit => [.box (.p (eDraw ((barD k (branchesD l k)).1)))]) (fun z : Unit => True) ?_ ?_
      · intro z hz
        have hbk := bar_ok (k := k) hok
        have hv1 := nextV_lt (barD k (branchesD l k)).1 (n := 3) (by omega)
        obtain ⟨⟨e0, e1, e2⟩, e3⟩ := hbk
        refine tr_seq ?_
        refine tr_r (vc := [Mut Try.prog 30 (eDraw ((barD k (branchesD l k)).1)) [.v (.int .i64 3)] (eDraw (nextD ((barD k (branchesD l k)).1))) (vint .i64 (nextV ((barD k (branchesD l k)).1) 3)), (IntKind.wrap .i64 ((1 : Int) + (nextV ((barD k (branchesD l k)).1) 3))) = ((1 : Int) + (nextV ((barD k (branchesD l k)).1) 3))]) (E' := [(3, none, .ref 0 []), (4, none, vstr ((barD k (branchesD l k)).2)), (5, none, vint .i64 ((1 : Int) + (nextV ({ L := l, At := 0 } : Draw) 2))), (6, none, vint .i64 ((k : Nat) : Int)), (7, none, vint .i64 ((1 : Int) + (nextV ((barD k (branchesD l k)).1) 3)))]) (H' := [.box (.p (eDraw (nextD ((barD k (branchesD l k)).1))))]) [(2, vint .i64 ((1 : Int) + (nextV ((barD k (branchesD l k)).1) 3)))] [(1, .tup [.p (eDraw (nextD ((barD k (branchesD l k)).1))), vint .i64 (nextV ((barD k (branchesD l k)).1) 3)])] [3, 4, 5, 6, 7] (by kernel_rfl) ?_ ?_
        · refine al ?_ (al ?_ (trivial))
          · exact next_ok ((barD k (branchesD l k)).1) 3 (by omega) (by omega) (by first | omega | (simp; done) | (simp; omega) | (simp_all; done) | (simp_all; omega)) (by first | omega | (simp; done) | (simp; omega) | (simp_all; done) | (simp_all; omega)) (by first | omega | (simp; done) | (simp; omega) | (simp_all; done) | (simp_all; omega))
          · exact wr64 (by omega) (by omega) (by omega)
        refine tr_then ?_
        refine tr_seq ?_
        refine tr_r (vc := []) (E' := [(3, none, .ref 0 []), (4, none, vstr ((barD k (branchesD l k)).2)), (5, none, vint .i64 ((1 : Int) + (nextV ({ L := l, At := 0 } : Draw) 2))), (6, none, vint .i64 ((k : Nat) : Int)), (7, none, vint .i64 ((1 : Int) + (nextV ((barD k (branchesD l k)).1) 3))), (8, none, vint .i64 0)]) (H' := [.box (.p (eDraw (nextD ((barD k (branchesD l k)).1))))]) [] [] [3, 4, 5, 6, 7, 8] (by kernel_rfl) ?_ ?_
        · exact trivial
        refine tr_then ?_
        refine tr_block ?_
        refine tr_loop (α := Nat) (fun z : Nat => (fun (q : Nat) => [(3, none, .ref 0 []), (4, none, vstr ((piecesD (headD k (branchesD l k)) q).2)), (5, none, vint .i64 ((1 : Int) + (nextV ({ L := l, At := 0 } : Draw) 2))), (6, none, vint .i64 ((k : Nat) : Int)), (7, none, vint .i64 ((1 : Int) + (nextV ((barD k (branchesD l k)).1) 3))), (8, none, vint .i64 ((q : Nat) : Int))]) z) (fun z : Nat => (fun (q : Nat) => [.box (.p (eDraw ((piecesD (headD k (branchesD l k)) q).1)))]) z) (fun z : Nat => (fun (q : Nat) => ((q : Int) ≤ 1 + nextV (barD k (branchesD l k)).1 3)) z) (fun z : Nat => (fun (q : Nat) => (1 + nextV (barD k (branchesD l k)).1 3 - q).toNat) z) 0 ?_ ?_ ?_
        · show ((0 : Int) ≤ 1 + nextV (barD k (branchesD l k)).1 3)
          · first | omega | (intro hg; simp at hg; omega) | (simp; done) | (simp_all; done) | (simp_all; omega) | grind
        · intro A_ W_ hS
          replace hS := sl_set (d := vstr ((barD k (branchesD l k)).2)) 4 (vstr ((piecesD (headD k (branchesD l k)) 0).2)) (by kernel_rfl) (eqD_str (by rfl)) hS
          replace hS := sl_set (d := vint .i64 0) 8 (vint .i64 ((0 : Nat) : Int)) (by kernel_rfl) (eqD_int (by first | omega | (intro hg; simp at hg; omega) | (simp; done) | (simp_all; done) | (simp_all; omega) | grind)) hS
          replace hS := sl_obj_imp (d := .p (eDraw (nextD ((barD k (branchesD l k)).1)))) 0 (.p (eDraw ((piecesD (headD k (branchesD l k)) 0).1))) (by kernel_rfl) (impC_eq (congrArg (fun x => D.p (eDraw x)) (a₁ := (nextD ((barD k (branchesD l k)).1))) (a₂ := ((piecesD (headD k (branchesD l k)) 0).1)) (by rfl))) hS
          exact sl_weak (vc := []) [0] [3, 4, 5, 6, 7, 8] (by kernel_rfl) trivial hS
        · intro z hz
          revert z; intro q hz
          have hz : ((q : Int) ≤ 1 + nextV (barD k (branchesD l k)).1 3) := hz
          have hi1_0 := hz
          have hpk := pieces_ok (head_ok (k := k) hok) q
          obtain ⟨⟨p0, p1, p2⟩, p3⟩ := hpk
          have hv2 := nextV_lt (piecesD (headD k (branchesD l k)) q).1 (n := 12) (by omega)
          have hv3 := nextV_lt (nextD (piecesD (headD k (branchesD l k)) q).1) (n := 6) (by omega)
          obtain ⟨r0, r1, r2⟩ := nextD_ok (l := l) (d := (piecesD (headD k (branchesD l k)) q).1) ⟨p0, p1, p2⟩
          refine tr_seq ?_
          refine tr_seq ?_
          refine tr_r (vc := []) (E' := [(3, none, .ref 0 []), (4, none, vstr ((piecesD (headD k (branchesD l k)) q).2)), (5, none, vint .i64 ((1 : Int) + (nextV ({ L := l, At := 0 } : Draw) 2))), (6, none, vint .i64 ((k : Nat) : Int)), (7, none, vint .i64 ((1 : Int) + (nextV ((barD k (branchesD l k)).1) 3))), (8, none, vint .i64 ((q : Nat) : Int)), (29, none, vbool (decide (((q : Nat) : Int) < ((1 : Int) + (nextV ((barD k (branchesD l k)).1) 3)))))]) (H' := [.box (.p (eDraw ((piecesD (headD k (branchesD l k)) q).1)))]) [] [] [3, 4, 5, 6, 7, 8, 29] (by kernel_rfl) ?_ ?_
          · exact trivial
          refine tr_then ?_
          refine tr_condP (decide (((q : Nat) : Int) < ((1 : Int) + (nextV ((barD k (branchesD l k)).1) 3)))) (((q : Nat) : Int) < ((1 : Int) + (nextV ((barD k (branchesD l k)).1) 3))) (by simp) (by kernel_rfl) (fun hc2 => ?_) (fun hc2 => ?_)
          · skip
            refine tr_skip ?_
            refine tr_then ?_
            refine tr_seq ?_
            refine tr_block ?_
            refine tr_dx (vc := [∀ j, j < 12 → ([.s ([97] : List UInt8), .s ([98] : List UInt8), .s ([99] : List UInt8), .s ([48] : List UInt8), .s ([91, 97, 45, 99, 93] : List UInt8), .s ([91, 97, 98, 93] : List UInt8), .s ([91, 48, 49, 93] : List UInt8), .s ([91, 45, 97, 93] : List UInt8), .s ([91, 97, 45, 102, 48, 45, 57, 93] : List UInt8), .s ([49] : List UInt8), .s ([102] : List UInt8), .s ([45] : List UInt8)] : List PV).getD j default = (fun i => eS (([([97] : List UInt8), ([98] : List UInt8), ([99] : List UInt8), ([48] : List UInt8), ([91, 97, 45, 99, 93] : List UInt8), ([91, 97, 98, 93] : List UInt8), ([91, 48, 49, 93] : List UInt8), ([91, 45, 97, 93] : List UInt8), ([91, 97, 45, 102, 48, 45, 57, 93] : List UInt8), ([49] : List UInt8), ([102] : List UInt8), ([45] : List UInt8)]).getD i [])) j, Mut Try.prog 30 (eDraw ((piecesD (headD k (branchesD l k)) q).1)) [.v (.int .i64 12)] (eDraw (nextD ((piecesD (headD k (branchesD l k)) q).1))) (vint .i64 (nextV ((piecesD (headD k (branchesD l k)) q).1) 12)), (0 : Int) ≤ (nextV ((piecesD (headD k (branchesD l k)) q).1) 12), (nextV ((piecesD (headD k (branchesD l k)) q).1) 12) < (([([97] : List UInt8), ([98] : List UInt8), ([99] : List UInt8), ([48] : List UInt8), ([91, 97, 45, 99, 93] : List UInt8), ([91, 97, 98, 93] : List UInt8), ([91, 48, 49, 93] : List UInt8), ([91, 45, 97, 93] : List UInt8), ([91, 97, 45, 102, 48, 45, 57, 93] : List UInt8), ([49] : List UInt8), ([102] : List UInt8), ([45] : List UInt8)]).length : Int), ((((piecesD (headD k (branchesD l k)) q).2).length + (([([97] : List UInt8), ([98] : List UInt8), ([99] : List UInt8), ([48] : List UInt8), ([91, 97, 45, 99, 93] : List UInt8), ([91, 97, 98, 93] : List UInt8), ([91, 48, 49, 93] : List UInt8), ([91, 45, 97, 93] : List UInt8), ([91, 97, 45, 102, 48, 45, 57, 93] : List UInt8), ([49] : List UInt8), ([102] : List UInt8), ([45] : List UInt8)]).getD ((nextV ((piecesD (headD k (branchesD l k)) q).1) 12).toNat) []).length : Nat) : Int) ≤ 9223372036854775807, ∀ j, j < 6 → ([.s ([] : List UInt8), .s ([] : List UInt8), .s ([] : List UInt8), .s ([63] : List UInt8), .s ([43] : List UInt8), .s ([42] : List UInt8)] : List PV).getD j default = (fun i => eS (([([] : List UInt8), ([] : List UInt8), ([] : List UInt8), ([63] : List UInt8), ([43] : List UInt8), ([42] : List UInt8)]).getD i [])) j, Mut Try.prog 30 (eDraw (nextD ((piecesD (headD k (branchesD l k)) q).1))) [.v (.int .i64 6)] (eDraw (nextD (nextD ((piecesD (headD k (branchesD l k)) q).1)))) (vint .i64 (nextV (nextD ((piecesD (headD k (branchesD l k)) q).1)) 6)), (0 : Int) ≤ (nextV (nextD ((piecesD (headD k (branchesD l k)) q).1)) 6), (nextV (nextD ((piecesD (headD k (branchesD l k)) q).1)) 6) < (([([] : List UInt8), ([] : List UInt8), ([] : List UInt8), ([63] : List UInt8), ([43] : List UInt8), ([42] : List UInt8)]).length : Int), (((((piecesD (headD k (branchesD l k)) q).2) ++ (([([97] : List UInt8), ([98] : List UInt8), ([99] : List UInt8), ([48] : List UInt8), ([91, 97, 45, 99, 93] : List UInt8), ([91, 97, 98, 93] : List UInt8), ([91, 48, 49, 93] : List UInt8), ([91, 45, 97, 93] : List UInt8), ([91, 97, 45, 102, 48, 45, 57, 93] : List UInt8), ([49] : List UInt8), ([102] : List UInt8), ([45] : List UInt8)]).getD ((nextV ((piecesD (headD k (branchesD l k)) q).1) 12).toNat) [])).length + (([([] : List UInt8), ([] : List UInt8), ([] : List UInt8), ([63] : List UInt8), ([43] : List UInt8), ([42] : List UInt8)]).getD ((nextV (nextD ((piecesD (headD k (branchesD l k)) q).1)) 6).toNat) []).length : Nat) : Int) ≤ 9223372036854775807]) (E' := [(3, none, .ref 0 []), (4, none, vstr ((((piecesD (headD k (branchesD l k)) q).2) ++ (([([97] : List UInt8), ([98] : List UInt8), ([99] : List UInt8), ([48] : List UInt8), ([91, 97, 45, 99, 93] : List UInt8), ([91, 97, 98, 93] : List UInt8), ([91, 48, 49, 93] : List UInt8), ([91, 45, 97, 93] : List UInt8), ([91, 97, 45, 102, 48, 45, 57, 93] : List UInt8), ([49] : List UInt8), ([102] : List UInt8), ([45] : List UInt8)]).getD ((nextV ((piecesD (headD k (branchesD l k)) q).1) 12).toNat) [])) ++ (([([] : List UInt8), ([] : List UInt8), ([] : List UInt8), ([63] : List UInt8), ([43] : List UInt8), ([42] : List UInt8)]).getD ((nextV (nextD ((piecesD (headD k (branchesD l k)) q).1)) 6).toNat) []))), (5, none, vint .i64 ((1 : Int) + (nextV ({ L := l, At := 0 } : Draw) 2))), (6, none, vint .i64 ((k : Nat) : Int)), (7, none, vint .i64 ((1 : Int) + (nextV ((barD k (branchesD l k)).1) 3))), (8, none, vint .i64 ((q : Nat) : Int))]) (H' := [.box (.p (eDraw (nextD (nextD ((piecesD (headD k (branchesD l k)) q).1)))))]) 1 [(3, 1, [0], [0]), (9, 1, [0], [0])] [] [(1, .p ((eL eS 1 []) ([([97] : List UInt8), ([98] : List UInt8), ([99] : List UInt8), ([48] : List UInt8), ([91, 97, 45, 99, 93] : List UInt8), ([91, 97, 98, 93] : List UInt8), ([91, 48, 49, 93] : List UInt8), ([91, 45, 97, 93] : List UInt8), ([91, 97, 45, 102, 48, 45, 57, 93] : List UInt8), ([49] : List UInt8), ([102] : List UInt8), ([45] : List UInt8)]))), (3, .tup [.p (eDraw (nextD ((piecesD (headD k (branchesD l k)) q).1))), vint .i64 (nextV ((piecesD (headD k (branchesD l k)) q).1) 12)]), (7, .p ((eL eS 1 []) ([([] : List UInt8), ([] : List UInt8), ([] : List UInt8), ([63] : List UInt8), ([43] : List UInt8), ([42] : List UInt8)]))), (9, .tup [.p (eDraw (nextD (nextD ((piecesD (headD k (branchesD l k)) q).1)))), vint .i64 (nextV (nextD ((piecesD (headD k (branchesD l k)) q).1)) 6)])] [3, 4, 5, 6, 7, 8] (by kernel_rfl) (by kernel_rfl) (by kernel_rfl) (by kernel_rfl) ?_ ?_
            · refine al ?_ (al ?_ (al ?_ (al ?_ (al ?_ (al ?_ (al ?_ (al ?_ (al ?_ (al ?_ (trivial))))))))))
              · exact lit_pv (e := eS) (d := []) (l := [([97] : List UInt8), ([98] : List UInt8), ([99] : List UInt8), ([48] : List UInt8), ([91, 97, 45, 99, 93] : List UInt8), ([91, 97, 98, 93] : List UInt8), ([91, 48, 49, 93] : List UInt8), ([91, 45, 97, 93] : List UInt8), ([91, 97, 45, 102, 48, 45, 57, 93] : List UInt8), ([49] : List UInt8), ([102] : List UInt8), ([45] : List UInt8)])
              · exact next_ok ((piecesD (headD k (branchesD l k)) q).1) 12 (by omega) (by omega) (by first | omega | (simp; done) | (simp; omega) | (simp_all; done) | (simp_all; omega)) (by first | omega | (simp; done) | (simp; omega) | (simp_all; done) | (simp_all; omega)) (by first | omega | (simp; done) | (simp; omega) | (simp_all; done) | (simp_all; omega))
              · first | omega | (intro hg; simp at hg; omega) | (simp; done) | (simp_all; done) | (simp_all; omega) | grind
              · first | omega | (intro hg; simp at hg; omega) | (simp; done) | (simp_all; done) | (simp_all; omega) | grind
              · have h1 : (tabA.getD (nextV (piecesD (headD k (branchesD l k)) q).1 12).toNat []).length ≤ 8 := tabA_len _; unfold tabA at h1; omega
              · exact lit_pv (e := eS) (d := []) (l := [([] : List UInt8), ([] : List UInt8), ([] : List UInt8), ([63] : List UInt8), ([43] : List UInt8), ([42] : List UInt8)])
              · exact next_ok (nextD ((piecesD (headD k (branchesD l k)) q).1)) 6 (by omega) (by omega) (by first | omega | (simp; done) | (simp; omega) | (simp_all; done) | (simp_all; omega)) (by first | omega | (simp; done) | (simp; omega) | (simp_all; done) | (simp_all; omega)) (by first | omega | (simp; done) | (simp; omega) | (simp_all; done) | (simp_all; omega))
              · first | omega | (intro hg; simp at hg; omega) | (simp; done) | (simp_all; done) | (simp_all; omega) | grind
              · first | omega | (intro hg; simp at hg; omega) | (simp; done) | (simp_all; done) | (simp_all; omega) | grind
              · have h1 : (tabA.getD (nextV (piecesD (headD k (branchesD l k)) q).1 12).toNat []).length ≤ 8 := tabA_len _; have h2 : (tabB.getD (nextV (nextD (piecesD (headD k (branchesD l k)) q).1) 6).toNat []).length ≤ 1 := tabB_len _; unfold tabA at h1; unfold tabB at h2; simp only [List.length_append]; omega
            refine in_n ?_
            refine tr_then ?_
            refine tr_r (vc := [(IntKind.wrap .i64 (((q : Nat) : Int) + 1)) = (((q + 1) : Nat) : Int)]) (E' := [(3, none, .ref 0 []), (4, none, vstr ((((piecesD (headD k (branchesD l k)) q).2) ++ (([([97] : List UInt8), ([98] : List UInt8), ([99] : List UInt8), ([48] : List UInt8), ([91, 97, 45, 99, 93] : List UInt8), ([91, 97, 98, 93] : List UInt8), ([91, 48, 49, 93] : List UInt8), ([91, 45, 97, 93] : List UInt8), ([91, 97, 45, 102, 48, 45, 57, 93] : List UInt8), ([49] : List UInt8), ([102] : List UInt8), ([45] : List UInt8)]).getD ((nextV ((piecesD (headD k (branchesD l k)) q).1) 12).toNat) [])) ++ (([([] : List UInt8), ([] : List UInt8), ([] : List UInt8), ([63] : List UInt8), ([43] : List UInt8), ([42] : List UInt8)]).getD ((nextV (nextD ((piecesD (headD k (branchesD l k)) q).1)) 6).toNat) []))), (5, none, vint .i64 ((1 : Int) + (nextV ({ L := l, At := 0 } : Draw) 2))), (6, none, vint .i64 ((k : Nat) : Int)), (7, none, vint .i64 ((1 : Int) + (nextV ((barD k (branchesD l k)).1) 3))), (8, none, vint .i64 (((q + 1) : Nat) : Int))]) (H' := [.box (.p (eDraw (nextD (nextD ((piecesD (headD k (branchesD l k)) q).1)))))]) [(1, vint .i64 (((q + 1) : Nat) : Int))] [] [3, 4, 5, 6, 7, 8] (by kernel_rfl) ?_ ?_
            · refine al ?_ (trivial)
              · exact wr64 (by omega) (by omega) (by omega)
            refine lp_end (q + 1) ?_ ?_ ?_
            · show (((q + 1) : Int) ≤ 1 + nextV (barD k (branchesD l k)).1 3)
              · first | omega | (intro hg; simp at hg; omega) | (simp; done) | (simp_all; done) | (simp_all; omega) | grind
            · show (1 + nextV (barD k (branchesD l k)).1 3 - (q + 1)).toNat < (1 + nextV (barD k (branchesD l k)).1 3 - q).toNat
              omega
            · intro A_ W_ hS
              replace hS := sl_set (d := vstr ((((piecesD (headD k (branchesD l k)) q).2) ++ (([([97] : List UInt8), ([98] : List UInt8), ([99] : List UInt8), ([48] : List UInt8), ([91, 97, 45, 99, 93] : List UInt8), ([91, 97, 98, 93] : List UInt8), ([91, 48, 49, 93] : List UInt8), ([91, 45, 97, 93] : List UInt8), ([91, 97, 45, 102, 48, 45, 57, 93] : List UInt8), ([49] : List UInt8), ([102] : List UInt8), ([45] : List UInt8)]).getD ((nextV ((piecesD (headD k (branchesD l k)) q).1) 12).toNat) [])) ++ (([([] : List UInt8), ([] : List UInt8), ([] : List UInt8), ([63] : List UInt8), ([43] : List UInt8), ([42] : List UInt8)]).getD ((nextV (nextD ((piecesD (headD k (branchesD l k)) q).1)) 6).toNat) []))) 4 (vstr ((piecesD (headD k (branchesD l k)) (q + 1)).2)) (by kernel_rfl) (eqD_str (by rfl)) hS
              replace hS := sl_obj_imp (d := .p (eDraw (nextD (nextD ((piecesD (headD k (branchesD l k)) q).1))))) 0 (.p (eDraw ((piecesD (headD k (branchesD l k)) (q + 1)).1))) (by kernel_rfl) (impC_eq (congrArg (fun x => D.p (eDraw x)) (a₁ := (nextD (nextD ((piecesD (headD k (branchesD l k)) q).1)))) (a₂ := ((piecesD (headD k (branchesD l k)) (q + 1)).1)) (by rfl))) hS
              exact sl_weak (vc := []) [0] [3, 4, 5, 6, 7, 8] (by kernel_rfl) trivial hS
          · skip
            refine tr_exit ?_
            refine th_e ?_
            refine th_e ?_
            refine in_hit ?_
            refine in_n ?_
            refine tr_then ?_
            refine tr_r (vc := [(IntKind.wrap .i64 (((k : Nat) : Int) + 1)) = (((k + 1) : Nat) : Int)]) (E' := [(3, none, .ref 0 []), (4, none, vstr ((piecesD (headD k (branchesD l k)) q).2)), (5, none, vint .i64 ((1 : Int) + (nextV ({ L := l, At := 0 } : Draw) 2))), (6, none, vint .i64 (((k + 1) : Nat) : Int))]) (H' := [.box (.p (eDraw ((piecesD (headD k (branchesD l k)) q).1)))]) [(1, vint .i64 (((k + 1) : Nat) : Int))] [] [3, 4, 5, 6] (by kernel_rfl) ?_ ?_
            · refine al ?_ (trivial)
              · exact wr64 (by omega) (by omega) (by omega)
            refine lp_end (k + 1) ?_ ?_ ?_
            · show (((k + 1) : Int) ≤ 1 + nextV ({ L := l, At := 0 } : Draw) 2)
              · first | omega | (intro hg; simp at hg; omega) | (simp; done) | (simp_all; done) | (simp_all; omega) | grind
            · show (1 + nextV ({ L := l, At := 0 } : Draw) 2 - (k + 1)).toNat < (1 + nextV ({ L := l, At := 0 } : Draw) 2 - k).toNat
              omega
            · intro A_ W_ hS
              replace hS := sl_set (d := vstr ((piecesD (headD k (branchesD l k)) q).2)) 4 (vstr ((branchesD l (k + 1)).2)) (by kernel_rfl) (eqD_str (by rw [show q = (1 + nextV (barD k (branchesD l k)).1 3).toNat by omega]; rfl)) hS
              replace hS := sl_obj_imp (d := .p (eDraw ((piecesD (headD k (branchesD l k)) q).1))) 0 (.p (eDraw ((branchesD l (k + 1)).1))) (by kernel_rfl) (impC_eq (congrArg (fun x => D.p (eDraw x)) (a₁ := ((piecesD (headD k (branchesD l k)) q).1)) (a₂ := ((branchesD l (k + 1)).1)) (by rw [show q = (1 + nextV (barD k (branchesD l k)).1 3).toNat by omega]; rfl))) hS
              exact sl_weak (vc := []) [0] [3, 4, 5, 6] (by kernel_rfl) trivial hS
      · skip
        refine tr_seq ?_
        refine tr_r (vc := []) (E' := [(3, none, .ref 0 []), (4, none, vstr ((branchesD l k).2)), (5, none, vint .i64 ((1 : Int) + (nextV ({ L := l, At := 0 } : Draw) 2))), (6, none, vint .i64 ((k : Nat) : Int)), (21, none, vbool (decide (0 < ((k : Nat) : Int))))]) (H' := [.box (.p (eDraw ((branchesD l k).1)))]) [] [] [3, 4, 5, 6, 21] (by kernel_rfl) ?_ ?_
        · exact trivial
        refine tr_then ?_
        refine tr_condP (decide (0 < ((k : Nat) : Int))) (0 < ((k : Nat) : Int)) (by simp) (by kernel_rfl) (fun hc3 => ?_) (fun hc3 => ?_)
        · skip
          refine tr_r (vc := [((((branchesD l k).2).length + ([124] : List UInt8).length : Nat) : Int) ≤ 9223372036854775807]) (E' := [(3, none, .ref 0 []), (4, none, vstr (((branchesD l k).2) ++ ([124] : List UInt8))), (5, none, vint .i64 ((1 : Int) + (nextV ({ L := l, At := 0 } : Draw) 2))), (6, none, vint .i64 ((k : Nat) : Int))]) (H' := [.box (.p (eDraw ((branchesD l k).1)))]) [] [] [3, 4, 5, 6] (by kernel_rfl) ?_ ?_
          · refine al ?_ (trivial)
            · have h0 := hok.2; simp only [List.length_cons, List.length_nil]; omega
          refine jn_end () ?_ ?_
          · exact trivial
          · intro A_ W_ hS
            replace hS := sl_set (d := vstr (((branchesD l k).2) ++ ([124] : List UInt8))) 4 (vstr ((barD k (branchesD l k)).2)) (by kernel_rfl) (eqD_str (by first | (unfold barD; rw [if_pos (by omega)]) | (unfold barD; rw [if_neg (by omega)]))) hS
            replace hS := sl_obj_imp (d := .p (eDraw ((branchesD l k).1))) 0 (.p (eDraw ((barD k (branchesD l k)).1))) (by kernel_rfl) (impC_eq (congrArg (fun x => D.p (eDraw x)) (a₁ := ((branchesD l k).1)) (a₂ := ((barD k (branchesD l k)).1)) (by first | (unfold barD; rw [if_pos (by omega)]) | (unfold barD; rw [if_neg (by omega)])))) hS
            exact sl_weak (vc := []) [0] [3, 4, 5, 6] (by kernel_rfl) trivial hS
        · skip
          refine tr_skip ?_
          refine jn_end () ?_ ?_
          · exact trivial
          · intro A_ W_ hS
            replace hS := sl_set (d := vstr ((branchesD l k).2)) 4 (vstr ((barD k (branchesD l k)).2)) (by kernel_rfl) (eqD_str (by first | (unfold barD; rw [if_pos (by omega)]) | (unfold barD; rw [if_neg (by omega)]))) hS
            replace hS := sl_obj_imp (d := .p (eDraw ((branchesD l k).1))) 0 (.p (eDraw ((barD k (branchesD l k)).1))) (by kernel_rfl) (impC_eq (congrArg (fun x => D.p (eDraw x)) (a₁ := ((branchesD l k).1)) (a₂ := ((barD k (branchesD l k)).1)) (by first | (unfold barD; rw [if_pos (by omega)]) | (unfold barD; rw [if_neg (by omega)])))) hS
            exact sl_weak (vc := []) [0] [3, 4, 5, 6] (by kernel_rfl) trivial hS
    · skip
      refine tr_exit ?_
      refine th_e ?_
      refine th_e ?_
      refine in_hit ?_
      refine tr_then ?_
      refine tr_seq ?_
      refine tr_r (vc := []) (E' := [(2, none, vstr ((branchesD l k).2))]) (H' := [.box (.p (eDraw ((branchesD l k).1)))]) [] [] [2] (by kernel_rfl) ?_ ?_
      · exact trivial
      refine tr_then ?_
      refine tr_pre (E' := [(2, none, vstr ((branchesD l k).2))]) (H' := []) (fun A_ W_ hS => sl_weak (vc := []) [] [2] (by kernel_rfl) trivial hS) ?_
      refine tr_pre (E' := (2, none, vstr (patS l)) :: [(2, none, vstr ((branchesD l k).2))]) (H' := []) (fun A_ W_ hS => sl_set_imp (d := vstr ((branchesD l k).2)) 2 (vstr (patS l)) (by kernel_rfl) ?_ hS) ?_
      · refine imp_eq (congrArg (fun x => D.p (eS x)) (a₁ := ((branchesD l k).2)) (a₂ := (patS l)) ?_)
        rw [patS, show k = (1 + nextV ({ L := l, At := 0 } : Draw) 2).toNat by omega]
      refine tr_pre (E' := [(2, none, vstr (patS l))]) (H' := []) (fun A_ W_ hS => sl_proj (ts := [2]) (by kernel_rfl) hS) ?_
      exact tr_return' (vc := []) (ds := [vstr (patS l)]) (by kernel_rfl) trivial (by kernel_rfl) (fun _ _ h => h)
end Go.Proofs.Ytjnjmnfacaakfaa
namespace Go.Proofs.Ytjnjmnfacaakfaa
open Go.Eng
theorem langS_err (s : List UInt8) : (langS s).2 = 0 ∨ (langS s).2 = 2 ∨ (langS s).2 = 5 := by
  unfold langS
  split
  · simp
  · split
    · simp
    · split <;> simp
theorem bfs_len {ps : List Place} : ∀ {n k : Nat} {L : List Pl} {A : List Bool} {N : List (List Int)} {x : Lang}, A.length + n ≤ 17 → bfsM ps n L k A N = some x → x.Accept.length ≤ 17
  | 0, _, _, _, _, _, _, h => by cases h
  | n + 1, k, L, A, N, x, h1, h => by
    unfold bfsM at h
    split at h
    · split at h
      · cases h
      · exact bfs_len (by simp; omega) h
    · cases h
      show A.length ≤ 17
      omega
theorem langS_len (s : List UInt8) : (langS s).1.Accept.length ≤ 17 := by
  unfold langS
  split
  · simp [dLang]
  · split
    · simp [dLang]
    · split
      · rename_i l h
        exact bfs_len (A := []) (by simp) h
      · simp [dLang]
def statesS (s : List UInt8) : Int := if (langS s).2 ≠ 0 then -(langS s).2 else ((langS s).1.Accept.length : Int)
theorem states_ok (s : List UInt8) (hb0 : s.length < 4611686018427387904) : Pure Try.prog 29 [.s s] (vint .i64 (statesS s)) := by
  have he := langS_err s
  have hl := langS_len s
  refine pure_of (fn := Try.f29) Try.func29 rfl rfl fun F_ W0_ => ?_
  refine tr_seq ?_
  refine tr_r (vc := []) (E' := [(0, none, vstr s)]) (H' := []) [] [] [0] (by kernel_rfl) ?_ ?_
  · exact trivial
  refine tr_then ?_
  refine tr_seq ?_
  refine tr_r (vc := [Pure Try.prog 11 [.s s] (.tup [.p (eLang ((langS s).1)), vint .i64 ((langS s).2)])]) (E' := [(3, none, .ref 0 []), (4, none, vint .i64 ((langS s).2))]) (H' := [.box (.p (eLang ((langS s).1)))]) [] [(1, .tup [.p (eLang ((langS s).1)), vint .i64 ((langS s).2)])] [3, 4] (by kernel_rfl) ?_ ?_
  · refine al ?_ (trivial)
    · exact Parse_ok _ (by first | omega | (intro hg; simp at hg; omega) | (simp; done) | (simp_all; done) | (simp_all; omega) | grind)
  refine tr_then ?_
  refine tr_seq ?_
  refine tr_seq ?_
  refine tr_r (vc := []) (E' := [(3, none, .ref 0 []), (4, none, vint .i64 ((langS s).2)), (11, none, vbool (((langS s).2) != 0))]) (H' := [.box (.p (eLang ((langS s).1)))]) [] [] [3, 4, 11] (by kernel_rfl) ?_ ?_
  · exact trivial
  refine tr_then ?_
  refine tr_condP (((langS s).2) != 0) (((langS s).2) ≠ 0) (by simp) (by kernel_rfl) (fun hc1 => ?_) (fun hc1 => ?_)
  · skip
    refine tr_seq ?_
    refine tr_r (vc := [(IntKind.wrap .i64 (0 - ((langS s).2))) = (-((langS s).2))]) (E' := [(2, none, vint .i64 (-((langS s).2)))]) (H' := [.box (.p (eLang ((langS s).1)))]) [(1, vint .i64 (-((langS s).2)))] [] [2] (by kernel_rfl) ?_ ?_
    · refine al ?_ (trivial)
      · exact wr64 (by omega) (by omega) (by omega)
    refine tr_then ?_
    refine tr_pre (E' := [(2, none, vint .i64 (-((langS s).2)))]) (H' := []) (fun A_ W_ hS => sl_weak (vc := []) [] [2] (by kernel_rfl) trivial hS) ?_
    refine tr_pre (E' := (2, none, vint .i64 (statesS s)) :: [(2, none, vint .i64 (-((langS s).2)))]) (H' := []) (fun A_ W_ hS => sl_set_imp (d := vint .i64 (-((langS s).2))) 2 (vint .i64 (statesS s)) (by kernel_rfl) ?_ hS) ?_
    · refine imp_eq (congrArg (fun x => D.p (eI x)) (a₁ := (-((langS s).2))) (a₂ := (statesS s)) ?_)
      first | (rw [statesS, if_pos (by omega)]; done) | (rw [statesS, if_neg (by omega)]; done)
    refine tr_pre (E' := [(2, none, vint .i64 (statesS s))]) (H' := []) (fun A_ W_ hS => sl_proj (ts := [2]) (by kernel_rfl) hS) ?_
    exact tr_return' (vc := []) (ds := [vint .i64 (statesS s)]) (by kernel_rfl) trivial (by kernel_rfl) (fun _ _ h => h)
  · skip
    refine tr_skip ?_
    refine tr_then ?_
    refine tr_seq ?_
    refine tr_r (vc := []) (E' := [(2, none, vint .i64 (((((langS s).1).Accept).length : Nat) : Int))]) (H' := [.box (.p (eLang ((langS s).1)))]) [] [] [2] (by kernel_rfl) ?_ ?_
    · exact trivial
    refine tr_then ?_
    refine tr_pre (E' := [(2, none, vint .i64 (((((langS s).1).Accept).length : Nat) : Int))]) (H' := []) (fun A_ W_ hS => sl_weak (vc := []) [] [2] (by kernel_rfl) trivial hS) ?_
    refine tr_pre (E' := (2, none, vint .i64 (statesS s)) :: [(2, none, vint .i64 (((((langS s).1).Accept).length : Nat) : Int))]) (H' := []) (fun A_ W_ hS => sl_set_imp (d := vint .i64 (((((langS s).1).Accept).length : Nat) : Int)) 2 (vint .i64 (statesS s)) (by kernel_rfl) ?_ hS) ?_
    · refine imp_eq (congrArg (fun x => D.p (eI x)) (a₁ := (((((langS s).1).Accept).length : Nat) : Int)) (a₂ := (statesS s)) ?_)
      first | (rw [statesS, if_pos (by omega)]; done) | (rw [statesS, if_neg (by omega)]; done)
    refine tr_pre (E' := [(2, none, vint .i64 (statesS s))]) (H' := []) (fun A_ W_ hS => sl_proj (ts := [2]) (by kernel_rfl) hS) ?_
    exact tr_return' (vc := []) (ds := [vint .i64 (statesS s)]) (by kernel_rfl) trivial (by kernel_rfl) (fun _ _ h => h)
end Go.Proofs.Ytjnjmnfacaakfaa
namespace Go.Proofs.Ytjnjmnfacaakfaa
open Go.Eng
structure Aut (σ : Type) where
  step : σ → Nat → σ
  none : σ → Bool
  acc : σ → Bool
  same : σ → σ → Bool
section
variable {σ τ : Type}
def idxG (A : Aut σ) (x : σ) : List σ → Nat → Option Nat
  | [], _ => .none
  | y :: L, i => if A.same y x = true then some i else idxG A x L (i + 1)
def rowG (A : Aut σ) (x : σ) (L : List σ) : Nat → List σ × List Int
  | 0 => (L, [])
  | c + 1 => if A.none (A.step x c) = true then ((rowG A x L c).1, (rowG A x L c).2 ++ [-1]) else
    match idxG A (A.step x c) (rowG A x L c).1 0 with
    | some i => ((rowG A x L c).1, (rowG A x L c).2 ++ [(i : Int)])
    | .none => ((rowG A x L c).1 ++ [A.step x c], (rowG A x L c).2 ++ [((rowG A x L c).1.length : Int)])
def bfsG (A : Aut σ) : Nat → List σ → Nat → List Bool → List (List Int) → Option Lang
  | 0, _, _, _, _ => .none
  | n + 1, L, k, B, N => match L[k]? with
    | some x => if 16 < (rowG A x L 37).1.length then .none else bfsG A n (rowG A x L 37).1 (k + 1) (B ++ [A.acc x]) (N ++ [(rowG A x L 37).2])
    | .none => some { Accept := B, Next := N }
/-- Two searches that go side by side. -/
structure Side (A : Aut σ) (B : Aut τ) (R : σ → τ → Prop) : Prop where
  step : ∀ x y c, c < 37 → R x y → R (A.step x c) (B.step y c)
  none : ∀ x y, R x y → A.none x = B.none y
  acc : ∀ x y, R x y → A.acc x = B.acc y
  same : ∀ x y x' y', R x y → R x' y' → A.same x x' = B.same y y'
variable {A : Aut σ} {B : Aut τ} {R : σ → τ → Prop}
inductive Rel (R : σ → τ → Prop) : List σ → List τ → Prop where
  | nil : Rel R [] []
  | cons {x y L M} : R x y → Rel R L M → Rel R (x :: L) (y :: M)
theorem Rel.length {L : List σ} {M : List τ} (h : Rel R L M) : L.length = M.length := by
  induction h with
  | nil => rfl
  | cons _ _ ih => simp [ih]
theorem Rel.snoc {L : List σ} {M : List τ} {x : σ} {y : τ} (h : Rel R L M) (hx : R x y) : Rel R (L ++ [x]) (M ++ [y]) := by
  induction h with
  | nil => exact .cons hx .nil
  | cons h1 _ ih => exact .cons h1 ih
theorem Rel.get {L : List σ} {M : List τ} (h : Rel R L M) : ∀ k : Nat, (L[k]? = .none ∧ M[k]? = .none) ∨ ∃ x y, L[k]? = some x ∧ M[k]? = some y ∧ R x y := by
  induction h with
  | nil => intro k; simp
  | cons h1 _ ih =>
    intro k
    cases k with
    | zero => exact .inr ⟨_, _, rfl, rfl, h1⟩
    | succ k => simpa using ih k
theorem idxG_side (hs : Side A B R) {x : σ} {y : τ} (hx : R x y) {L : List σ} {M : List τ} (h : Rel R L M) : ∀ i, idxG A x L i = idxG B y M i := by
  induction h with
  | nil => intro i; rfl
  | cons h1 _ ih =>
    intro i
    simp only [idxG]
    rw [hs.same _ _ _ _ h1 hx, ih]
theorem rowG_side (hs : Side A B R) {x : σ} {y : τ} (hx : R x y) {L : List σ} {M : List τ} (h : Rel R L M) : ∀ c, c ≤ 37 → Rel R (rowG A x L c).1 (rowG B y M c).1 ∧ (rowG A x L c).2 = (rowG B y M c).2
  | 0, _ => ⟨h, rfl⟩
  | c + 1, hc => by
    obtain ⟨h1, h2⟩ := rowG_side hs hx h c (by omega)
    have h3 := hs.step x y c (by omega) hx
    have h4 := idxG_side hs h3 h1 0
    have h5 := h1.length
    unfold rowG
    rw [hs.none _ _ h3]
    split
    · exact ⟨h1, by rw [h2]⟩
    · rw [h4]
      split
      · exact ⟨h1, by rw [h2]⟩
      · exact ⟨h1.snoc h3, by rw [h2, h5]⟩
theorem bfsG_side (hs : Side A B R) : ∀ {n k : Nat} {L : List σ} {M : List τ} {b : List Bool} {N : List (List Int)}, Rel R L M → bfsG A n L k b N = bfsG B n M k b N
  | 0, _, _, _, _, _, _ => rfl
  | n + 1, k, L, M, b, N, h => by
    unfold bfsG
    rcases h.get k with ⟨h1, h2⟩ | ⟨x, y, h1, h2, h3⟩
    · rw [h1, h2]
    · rw [h1, h2]
      obtain ⟨q1, q2⟩ := rowG_side hs h3 h 37 (Nat.le_refl _)
      simp only
      rw [q1.length, q2, hs.acc _ _ h3]
      split
      · rfl
      · exact bfsG_side hs q1
end
/-- The program's search is one of these. -/
def autP (ps : List Place) : Aut Pl := { step := fun S c => stepS ps S c, none := fun S => decide (keyS S = [0, 0]), acc := acceptS ps, same := fun S T => decide (keyS S = keyS T) }
theorem idx_G (ps : List Place) (S : Pl) : ∀ (L : List Pl) (i : Nat), idx S L i = idxG (autP ps) S L i
  | [], _ => rfl
  | T :: L, i => by simp only [idx, idxG, autP, decide_eq_true_eq]; rw [idx_G ps S L (i + 1)]; rfl
theorem row_G (ps : List Place) (S : Pl) (L : List Pl) : ∀ c, rowAt ps S L c = rowG (autP ps) S L c
  | 0 => rfl
  | c + 1 => by
    unfold rowAt rowG
    rw [row_G ps S L c]
    have e : (autP ps).step S c = stepS ps S c := rfl
    rw [e, ← idx_G]
    by_cases h : keyS (stepS ps S c) = [0, 0]
    · rw [if_pos h, if_pos (show (autP ps).none (stepS ps S c) = true from decide_eq_true h)]
    · rw [if_neg h, if_neg (show ¬ (autP ps).none (stepS ps S c) = true from fun h' => h (of_decide_eq_true h'))]
      rfl
theorem bfs_G (ps : List Place) : ∀ (n k : Nat) (L : List Pl) (b : List Bool) (N : List (List Int)), bfsM ps n L k b N = bfsG (autP ps) n L k b N
  | 0, _, _, _, _ => rfl
  | n + 1, k, L, b, N => by
    unfold bfsM bfsG
    by_cases h : k < L.length
    · rw [if_pos h, List.getElem?_eq_getElem h]
      have e : L.getD k noSet = L[k] := by simp [List.getD, List.getElem?_eq_getElem h]
      simp only [e]
      rw [row_G]
      split
      · rfl
      · rw [bfs_G]; rfl
    · rw [if_neg h, List.getElem?_eq_none (by omega)]
end Go.Proofs.Ytjnjmnfacaakfaa
namespace Go.Proofs.Ytjnjmnfacaakfaa
open Go.Eng
def clF (ps : List Place) (m : Nat) : Nat → Nat
  | 0 => m
  | i + 1 => if (clF ps m i).testBit i = true ∧ (ps.getD i dPlace).fMore ≠ 0 then clF ps m i ||| 2 ^ (i + 1) else clF ps m i
def closedF (ps : List Place) (m : Nat) : Nat := clF ps m ps.length
def spF (ps : List Place) (m : Nat) (c : Int) : Nat → Nat
  | 0 => 0
  | i + 1 => if m.testBit i = true ∧ bitOf (ps.getD i dPlace).fSet c = true then (if (ps.getD i dPlace).fMore = 42 then spF ps m c i ||| 2 ^ i else spF ps m c i ||| 2 ^ (i + 1)) else spF ps m c i
def stepF (ps : List Place) (m : Nat) (c : Int) : Nat := closedF ps (spF ps m c ps.length)
def accF (ps : List Place) (m : Nat) : Nat → Bool
  | 0 => false
  | i + 1 => accF ps m i || ((ps.getD i dPlace).fEnd && m.testBit i)
def autF (ps : List Place) : Aut Nat := { step := fun m c => stepF ps m c, none := fun m => m == 0, acc := fun m => accF ps m ps.length, same := fun m n => m == n }
def Bits (S : Pl) (m : Nat) : Prop := m < 2 ^ 128 ∧ ∀ i, i < 128 → S i = m.testBit i
theorem bits_upd {S : Pl} {m n : Nat} (h : Bits S m) (hn : n < 128) : Bits (upd S n true) (m ||| 2 ^ n) := by
  refine ⟨Nat.or_lt_two_pow h.1 (Nat.pow_lt_pow_right (by omega) hn), fun i hi => ?_⟩
  rw [Nat.testBit_or, Nat.testBit_two_pow]
  unfold upd
  by_cases hj : i = n
  · subst hj; simp
  · have : decide (n = i) = false := by simp; omega
    rw [this, if_neg hj, Bool.or_false]
    exact h.2 i hi
theorem cl_bits {ps : List Place} {S : Pl} {m : Nat} (h : Bits S m) : ∀ i, i ≤ 127 → Bits (cl ps S i) (clF ps m i)
  | 0, _ => h
  | i + 1, hi => by
    have ih := cl_bits (ps := ps) h i (by omega)
    unfold cl clF
    rw [ih.2 i (by omega)]
    split
    · exact bits_upd ih (by omega)
    · exact ih
theorem sp_bits {ps : List Place} {S : Pl} {m : Nat} {c : Int} (h : Bits S m) : ∀ i, i ≤ 127 → Bits (sp ps S c i) (spF ps m c i)
  | 0, _ => ⟨Nat.pos_of_ne_zero (by simp), fun i _ => by simp [sp, spF]⟩
  | i + 1, hi => by
    have ih := sp_bits (ps := ps) (c := c) h i (by omega)
    unfold sp spF
    rw [h.2 i (by omega)]
    split
    · split
      · exact bits_upd ih (by omega)
      · exact bits_upd ih (by omega)
    · exact ih
theorem acc_bits {ps : List Place} {S : Pl} {m : Nat} (h : Bits S m) : ∀ i, i ≤ 128 → acc ps S i = accF ps m i
  | 0, _ => rfl
  | i + 1, hi => by
    unfold acc accF
    rw [acc_bits h i (by omega), h.2 i (by omega)]
theorem key_same {S T : Pl} {m n : Nat} (h : Bits S m) (k : Bits T n) : keyS S = keyS T ↔ m = n := by
  constructor
  · intro e
    have e0 : setW S 0 = setW T 0 := congrArg (fun l => l.getD 0 0) e
    have e1 : setW S 1 = setW T 1 := congrArg (fun l => l.getD 1 0) e
    have e0 := wordN_inj (Int.ofNat.inj e0)
    have e1 := wordN_inj (Int.ofNat.inj e1)
    apply Nat.eq_of_testBit_eq
    intro i
    by_cases hi : i < 128
    · rw [← h.2 i hi, ← k.2 i hi]
      by_cases hj : i < 64
      · have := e0 i hj
        simpa using this
      · have : S (64 * 1 + (i - 64)) = T (64 * 1 + (i - 64)) := e1 (i - 64) (by omega)
        rwa [show 64 * 1 + (i - 64) = i by omega] at this
    · have hp : 2 ^ 128 ≤ 2 ^ i := Nat.pow_le_pow_right (by omega) (by omega)
      rw [Nat.testBit_lt_two_pow (Nat.lt_of_lt_of_le h.1 hp), Nat.testBit_lt_two_pow (Nat.lt_of_lt_of_le k.1 hp)]
  · rintro rfl
    have key : ∀ q, q < 2 → setW S q = setW T q := by
      intro q hq
      unfold setW
      congr 1
      exact wordN_congr fun i hi => by rw [h.2 _ (by omega), k.2 _ (by omega)]
    unfold keyS
    rw [key 0 (by omega), key 1 (by omega)]
theorem bits_none : Bits noSet 0 := ⟨Nat.pos_of_ne_zero (by simp), fun i _ => by simp [noSet]⟩
theorem keyS_none : keyS noSet = [0, 0] := by decide +kernel
theorem side_F {ps : List Place} (hp : ps.length ≤ 127) : Side (autP ps) (autF ps) Bits where
  step := fun S m c _ h => cl_bits (sp_bits h _ hp) _ hp
  none := fun S m h => by
    show decide (keyS S = [0, 0]) = (m == 0)
    rw [← keyS_none]
    have := key_same h bits_none
    by_cases e : m = 0
    · rw [decide_eq_true (this.2 e)]; simp [e]
    · rw [decide_eq_false (fun h' => e (this.1 h'))]; simp [e]
  acc := fun S m h => acc_bits h _ (by omega)
  same := fun S m S' m' h h' => by
    show decide (keyS S = keyS S') = (m == m')
    have := key_same h h'
    by_cases e : m = m'
    · rw [decide_eq_true (this.2 e)]; simp [e]
    · rw [decide_eq_false (fun h' => e (this.1 h'))]; simp [e]
def startF (st : List Int) : Nat → Nat
  | 0 => 0
  | i + 1 => startF st i ||| 2 ^ (st.getD i 0).toNat
theorem start_bits {st : List Int} (h : ∀ i, i < st.length → 0 ≤ st.getD i 0 ∧ st.getD i 0 < 128) : ∀ i, i ≤ st.length → Bits (startAt st i) (startF st i)
  | 0, _ => bits_none
  | i + 1, hi => bits_upd (start_bits h i (by omega)) (by have := h i (by omega); omega)
def langF (s : List UInt8) : Lang × Int := if 64 < s.length then (dLang, 2) else if (parseS s).isSome = false then (dLang, 5) else
  match bfsG (autF (plOf (parseS s))) 17 [closedF (plOf (parseS s)) (startF (stOf (parseS s)) (stOf (parseS s)).length)] 0 [] [] with
  | some l => (l, 0)
  | none => (dLang, 2)
theorem langS_F (s : List UInt8) : langS s = langF s := by
  unfold langS langF
  split
  · rfl
  · rename_i hs
    split
    · rfl
    · obtain ⟨h1, h2, h3⟩ := parseS_bound (s := s)
      have hp : (plOf (parseS s)).length ≤ 127 := by omega
      have hR : Bits (startS (parseS s)) (closedF (plOf (parseS s)) (startF (stOf (parseS s)) (stOf (parseS s)).length)) := cl_bits (start_bits (fun i hi => by have := h1 i hi; omega) _ (Nat.le_refl _)) _ hp
      rw [bfs_G, bfsG_side (side_F hp) (.cons hR .nil)]
      generalize bfsG (autF (plOf (parseS s))) 17 [closedF (plOf (parseS s)) (startF (stOf (parseS s)) (stOf (parseS s)).length)] 0 [] [] = q
      cases q <;> rfl
def pat1 : List UInt8 := [91, 97, 45, 99, 93, 43, 49, 63]
def lang1 : Lang := { Accept := [false, true, true], Next := [[1, 1, 1] ++ List.replicate 34 (-1), [1, 1, 1] ++ List.replicate 24 (-1) ++ [2] ++ List.replicate 9 (-1), List.replicate 37 (-1)] }
theorem ex1 : langS pat1 = (lang1, 0) := by rw [langS_F]; decide +kernel
def lang2 : Lang := { Accept := [true], Next := [List.replicate 23 (-1) ++ [0] ++ List.replicate 13 (-1)] }
theorem ex2 : langS [120, 42] = (lang2, 0) := by rw [langS_F]; decide +kernel
theorem ex3 : has lang1 [97, 98, 99, 97, 49] = true ∧ has lang1 [97] = true ∧ has lang1 [49] = false ∧ has lang1 [97, 49, 49] = false := by decide +kernel
theorem ex4 : statesS pat1 = 3 := by unfold statesS; rw [ex1]; decide +kernel
theorem ex5 : statesS [97, 98, 124, 97, 99] = 4 ∧ statesS [120, 42] = 1 ∧ 0 < statesS [91, 45, 97, 93, 98, 42, 124, 99] := by unfold statesS; simp only [langS_F]; decide +kernel
theorem ex6 : statesS [91, 97, 45, 93] = -5 ∧ statesS [97, 43, 43] = -5 ∧ statesS [91, 98, 45, 97, 93] = -5 ∧ statesS [] = -5 := by unfold statesS; simp only [langS_F]; decide +kernel
theorem ex7 : firstS lang1 5 = [[97], [98], [99], [97, 97], [97, 98]] := by decide +kernel
theorem ex8 : firstS lang2 3 = [[], [120], [120, 120]] := by decide +kernel
end Go.Proofs.Ytjnjmnfacaakfaa
namespace Go.Proofs.Ytjnjmnfacaakfaa
open Go.Eng
def symB (c : Nat) : UInt8 := symbols.getD c 0
theorem symAt_eq {c : Nat} (h : c < 37) : symAt c = [symB c] := by
  have : ∀ k : Fin 37, symAt k.val = [symB k.val] := by decide +kernel
  exact this ⟨c, h⟩
theorem sym_symB {c : Nat} (h : c < 37) : sym ((symB c).toNat : Int) = c := by
  have : ∀ k : Fin 37, sym ((symB k.val).toNat : Int) = k.val := by decide +kernel
  exact this ⟨c, h⟩
theorem symB_sym (b : UInt8) (h : 0 ≤ sym (b.toNat : Int)) : symB (sym (b.toNat : Int)).toNat = b := by
  have key : ∀ k : Fin 256, 0 ≤ sym (k.val : Int) → symB (sym (k.val : Int)).toNat = k.val.toUInt8 := by decide +kernel
  have := key ⟨b.toNat, b.toNat_lt⟩ h
  rw [this]
  simp
theorem orTo_iff {prev : List Bool} {row : List Int} : ∀ {n : Nat}, orTo prev row n = true ↔ ∃ c, c < n ∧ 0 ≤ row.getD c 0 ∧ prev.getD (row.getD c 0).toNat false = true
  | 0 => by simp [orTo]
  | n + 1 => by
    simp only [orTo, Bool.or_eq_true, Bool.and_eq_true, decide_eq_true_eq]
    rw [orTo_iff (n := n)]
    constructor
    · rintro (⟨c, h1, h2⟩ | h)
      · exact ⟨c, by omega, h2⟩
      · exact ⟨n, by omega, h⟩
    · rintro ⟨c, h1, h2⟩
      by_cases e : c = n
      · subst e; exact .inr h2
      · exact .inl ⟨c, by omega, h2⟩
theorem leadR_succ {l : Lang} (hok : check l = 0) {n q : Nat} (hq : q < l.Accept.length) : (leadR l (n + 1)).getD q false = true ↔ ∃ c, c < 37 ∧ 0 ≤ (l.Next.getD q []).getD c 0 ∧ (leadR l n).getD ((l.Next.getD q []).getD c 0).toNat false = true := by
  obtain ⟨f1, f2, f3, f4⟩ := check_facts hok
  have hw := (f4 q (by omega)).1
  have e : (leadR l (n + 1)).getD q false = orTo (leadR l n) (l.Next.getD q []) 37 := by
    show (rowC l (leadR l n) l.Next.length 0).getD q false = _
    simp only [rowC, List.getD_eq_getElem?_getD, List.getElem?_map, List.getElem?_range hq, Option.map_some, Option.getD_some]
    rw [if_pos (by omega)]
    rw [← List.getD_eq_getElem?_getD, hw]
  rw [e, orTo_iff]
/-- Accepted from a state on. -/
def accQ (l : Lang) (q : Nat) (s : List UInt8) : Bool := match go l q s with
  | some r => l.Accept.getD r false
  | none => false
theorem accQ_nil {l : Lang} {q : Nat} : accQ l q [] = l.Accept.getD q false := rfl
theorem accQ_cons {l : Lang} {q : Nat} {b : UInt8} {s : List UInt8} : accQ l q (b :: s) = true ↔ 0 ≤ sym b.toNat ∧ 0 ≤ (l.Next.getD q []).getD (sym b.toNat).toNat 0 ∧ accQ l ((l.Next.getD q []).getD (sym b.toNat).toNat 0).toNat s = true := by
  unfold accQ
  by_cases h : sym b.toNat < 0 ∨ (l.Next.getD q []).getD (sym b.toNat).toNat 0 < 0
  · rw [go, if_pos h]
    constructor
    · intro h'; cases h'
    · rintro ⟨h1, h2, _⟩; omega
  · rw [go, if_neg h]
    constructor
    · intro h'; exact ⟨by omega, by omega, h'⟩
    · rintro ⟨_, _, h'⟩; exact h'
theorem has_accQ {l : Lang} (hok : check l = 0) (s : List UInt8) : has l s = accQ l 0 s := by
  unfold has accQ
  rw [if_neg (by omega)]
  cases go l 0 s <;> rfl
theorem mem_extC {l : Lang} {rec : Nat → List UInt8 → List (List UInt8)} {q : Nat} {p w : List UInt8} : ∀ {n : Nat}, w ∈ extC l rec q p n ↔ ∃ c, c < n ∧ 0 ≤ (l.Next.getD q []).getD c 0 ∧ w ∈ rec ((l.Next.getD q []).getD c 0).toNat (p ++ symAt c)
  | 0 => by simp [extC]
  | n + 1 => by
    rw [extC, List.mem_append, mem_extC (n := n)]
    constructor
    · rintro (⟨c, h1, h2⟩ | h)
      · exact ⟨c, by omega, h2⟩
      · split at h
        · rename_i h0; exact ⟨n, by omega, h0, h⟩
        · cases h
    · rintro ⟨c, h1, h2, h3⟩
      by_cases e : c = n
      · subst e; rw [if_pos h2]; exact .inr h3
      · exact .inl ⟨c, by omega, h2, h3⟩
/-- What is listed from a state on: what is accepted from there, of so many symbols. -/
theorem mem_extW {l : Lang} (hok : check l = 0) : ∀ (n q : Nat) (p w : List UInt8), q < l.Accept.length → (w ∈ extW l n q p ↔ ∃ t, w = p ++ t ∧ t.length = n ∧ accQ l q t = true) ∧ ((leadR l n).getD q false = true ↔ ∃ t : List UInt8, t.length = n ∧ accQ l q t = true)
  | 0, q, p, w, hq => by
    have h2 : (leadR l 0).getD q false = true ↔ ∃ t : List UInt8, t.length = 0 ∧ accQ l q t = true := by
      constructor
      · intro h; exact ⟨[], rfl, h⟩
      · rintro ⟨t, h1, h2⟩
        obtain rfl := List.length_eq_zero_iff.1 h1
        exact h2
    refine ⟨?_, h2⟩
    rw [extW]
    constructor
    · intro h
      split at h
      · rename_i h0
        exact ⟨[], by simpa using h, rfl, h0⟩
      · cases h
    · rintro ⟨t, rfl, h1, h2⟩
      obtain rfl := List.length_eq_zero_iff.1 h1
      rw [if_pos (show (leadR l 0).getD q false = true from h2)]; simp
  | n + 1, q, p, w, hq => by
    obtain ⟨f1, f2, f3, f4⟩ := check_facts hok
    have hrow := f4 q (by omega)
    have to_lt : ∀ c, c < 37 → 0 ≤ (l.Next.getD q []).getD c 0 → ((l.Next.getD q []).getD c 0).toNat < l.Accept.length := fun c hc h0 => by
      have := hrow.2 c (by rw [hrow.1]; exact hc)
      omega
    have h2 : (leadR l (n + 1)).getD q false = true ↔ ∃ t : List UInt8, t.length = n + 1 ∧ accQ l q t = true := by
      rw [leadR_succ hok hq]
      constructor
      · rintro ⟨c, hc, h0, h1⟩
        obtain ⟨t, ht, ha⟩ := (mem_extW hok n _ [] [] (to_lt c hc h0)).2.1 h1
        refine ⟨symB c :: t, by simp [ht], accQ_cons.2 ?_⟩
        rw [sym_symB hc]
        exact ⟨by omega, h0, ha⟩
      · rintro ⟨t, ht, ha⟩
        match t, ht with
        | b :: t, ht =>
          obtain ⟨a1, a2, a3⟩ := accQ_cons.1 ha
          have hle := sym_le (b.toNat : Int)
          exact ⟨(sym b.toNat).toNat, by omega, a2, (mem_extW hok n _ [] [] (to_lt _ (by omega) a2)).2.2 ⟨t, by simpa using ht, a3⟩⟩
    refine ⟨?_, h2⟩
    rw [extW]
    constructor
    · intro h
      split at h
      · obtain ⟨c, hc, h0, hm⟩ := mem_extC.1 h
        obtain ⟨t, rfl, ht, ha⟩ := (mem_extW hok n _ _ _ (to_lt c hc h0)).1.1 hm
        refine ⟨symB c :: t, by rw [symAt_eq hc]; simp, by simp [ht], accQ_cons.2 ?_⟩
        rw [sym_symB hc]
        exact ⟨by omega, h0, ha⟩
      · cases h
    · rintro ⟨t, rfl, ht, ha⟩
      rw [if_pos (h2.2 ⟨t, ht, ha⟩)]
      match t, ht with
      | b :: t, ht =>
        obtain ⟨a1, a2, a3⟩ := accQ_cons.1 ha
        have hle := sym_le (b.toNat : Int)
        refine mem_extC.2 ⟨(sym b.toNat).toNat, by omega, a2, (mem_extW hok n _ _ _ (to_lt _ (by omega) a2)).1.2 ⟨t, ?_, by simpa using ht, a3⟩⟩
        rw [symAt_eq (by omega), symB_sym b a1]
        simp
theorem mem_allC {l : Lang} {w : List UInt8} : ∀ {n : Nat}, w ∈ allC l n ↔ ∃ k, k < n ∧ w ∈ extW l k 0 []
  | 0 => by simp [allC]
  | n + 1 => by
    rw [allC, List.mem_append, mem_allC (n := n)]
    constructor
    · rintro (⟨c, h1, h2⟩ | h)
      · exact ⟨c, by omega, h2⟩
      · exact ⟨n, by omega, h⟩
    · rintro ⟨c, h1, h2⟩
      by_cases e : c = n
      · subst e; exact .inr h2
      · exact .inl ⟨c, by omega, h2⟩
theorem mem_allW {l : Lang} (hok : check l = 0) {w : List UInt8} : w ∈ allW l ↔ w.length ≤ 12 ∧ has l w = true := by
  have h0 := (check_facts hok).1
  unfold allW
  rw [mem_allC, has_accQ hok]
  constructor
  · rintro ⟨k, hk, h⟩
    obtain ⟨t, rfl, ht, ha⟩ := (mem_extW hok k 0 [] w (by omega)).1.1 h
    exact ⟨by omega, ha⟩
  · rintro ⟨h1, h2⟩
    exact ⟨w.length, by omega, (mem_extW hok _ 0 [] w (by omega)).1.2 ⟨w, rfl, rfl, h2⟩⟩
end Go.Proofs.Ytjnjmnfacaakfaa
namespace Go.Proofs.Ytjnjmnfacaakfaa
open Go.Eng
section
variable {σ : Type} {A : Aut σ}
/-- The words that a state of the automaton of sets accepts. -/
def accW (A : Aut σ) : σ → List UInt8 → Bool
  | x, [] => A.acc x
  | x, b :: w => decide (0 ≤ sym b.toNat) && accW A (A.step x (sym b.toNat).toNat) w
/-- Equal is what is found equal; a state that is none accepts nothing. -/
structure Lawful (A : Aut σ) : Prop where
  same : ∀ x y, A.same y x = true → y = x
  none : ∀ x, A.none x = true → ∀ w, accW A x w = false
/-- What is known of the states that are found, of which the first k have their rows. -/
structure Found (A : Aut σ) (x0 : σ) (L : List σ) (k : Nat) (B : List Bool) (N : List (List Int)) : Prop where
  lenB : B.length = k
  lenN : N.length = k
  le : k ≤ L.length
  zero : L[0]? = some x0
  acc : ∀ (j : Nat) x, j < k → L[j]? = some x → B.getD j false = A.acc x
  row : ∀ j, j < k → (N.getD j []).length = 37
  nxt : ∀ (j : Nat) x c, j < k → L[j]? = some x → c < 37 → ((N.getD j []).getD c 0 = -1 ∧ A.none (A.step x c) = true) ∨ ∃ i : Nat, (N.getD j []).getD c 0 = i ∧ L[i]? = some (A.step x c) ∧ A.none (A.step x c) = false
  reach : ∀ j, 0 < j → j < L.length → ∃ i c, i < j ∧ i < k ∧ c < 37 ∧ (N.getD i []).getD c 0 = j
theorem idxG_some (h : Lawful A) {x : σ} : ∀ {L : List σ} {i j : Nat}, idxG A x L i = some j → i ≤ j ∧ L[j - i]? = some x
  | [], i, j, e => by cases e
  | y :: L, i, j, e => by
    unfold idxG at e
    split at e
    · rename_i hs
      cases e
      rw [h.same _ _ hs]
      exact ⟨Nat.le_refl _, by simp⟩
    · obtain ⟨h1, h2⟩ := idxG_some h e
      refine ⟨by omega, ?_⟩
      obtain ⟨m, rfl⟩ : ∃ m, j = i + 1 + m := ⟨j - (i + 1), by omega⟩
      rw [show i + 1 + m - (i + 1) = m by omega] at h2
      rw [show i + 1 + m - i = m + 1 by omega]
      simpa using h2
theorem rowG_found (h : Lawful A) {x : σ} {L : List σ} : ∀ c, c ≤ 37 → (∃ z, (rowG A x L c).1 = L ++ z) ∧ (rowG A x L c).2.length = c ∧
    (∀ d, d < c → ((rowG A x L c).2.getD d 0 = -1 ∧ A.none (A.step x d) = true) ∨ ∃ i : Nat, (rowG A x L c).2.getD d 0 = i ∧ (rowG A x L c).1[i]? = some (A.step x d) ∧ A.none (A.step x d) = false) ∧
    (∀ j, L.length ≤ j → j < (rowG A x L c).1.length → ∃ d, d < c ∧ (rowG A x L c).2.getD d 0 = j)
  | 0, _ => ⟨⟨[], by simp [rowG]⟩, rfl, fun d hd => by omega, fun j h1 h2 => by simp [rowG] at h2; omega⟩
  | c + 1, hc => by
    obtain ⟨⟨z, e1⟩, e2, e3, e4⟩ := rowG_found h (x := x) (L := L) c (by omega)
    have g1 : ∀ (v : Int) d, d < c → ((rowG A x L c).2 ++ [v]).getD d 0 = (rowG A x L c).2.getD d 0 := fun v d hd => by
      rw [List.getD_eq_getElem?_getD, List.getD_eq_getElem?_getD, List.getElem?_append_left (by omega)]
    have g2 : ∀ v : Int, ((rowG A x L c).2 ++ [v]).getD c 0 = v := fun v => by
      rw [List.getD_eq_getElem?_getD, List.getElem?_append_right (by omega), e2, Nat.sub_self]; rfl
    unfold rowG
    split
    · rename_i hn
      refine ⟨⟨z, e1⟩, by simp [e2], fun d hd => ?_, fun j h1 h2 => ?_⟩
      · by_cases hdc : d = c
        · subst hdc
          exact .inl ⟨g2 _, hn⟩
        · have := e3 d (by omega)
          simp only [g1 _ d (by omega)]
          exact this
      · obtain ⟨d, d1, d2⟩ := e4 j h1 h2
        exact ⟨d, by omega, by simp only [g1 _ d d1]; exact d2⟩
    · rename_i hn
      have hn' : A.none (A.step x c) = false := by simpa using hn
      split
      · rename_i i hi
        obtain ⟨_, hs⟩ := idxG_some h hi
        rw [Nat.sub_zero] at hs
        refine ⟨⟨z, e1⟩, by simp [e2], fun d hd => ?_, fun j h1 h2 => ?_⟩
        · by_cases hdc : d = c
          · subst hdc
            exact .inr ⟨i, g2 _, hs, hn'⟩
          · simp only [g1 _ d (by omega)]
            exact e3 d (by omega)
        · obtain ⟨d, d1, d2⟩ := e4 j h1 h2
          exact ⟨d, by omega, by simp only [g1 _ d d1]; exact d2⟩
      · refine ⟨⟨z ++ [A.step x c], by simp [e1]⟩, by simp [e2], fun d hd => ?_, fun j h1 h2 => ?_⟩
        · by_cases hdc : d = c
          · subst hdc
            exact .inr ⟨_, g2 _, by simp, hn'⟩
          · simp only [g1 _ d (by omega)]
            rcases e3 d (by omega) with h1 | ⟨i, h1, h2, h3⟩
            · exact .inl h1
            · refine .inr ⟨i, h1, ?_, h3⟩
              rw [List.getElem?_append_left (List.getElem?_eq_some_iff.1 h2).1]
              exact h2
        · simp only [List.length_append, List.length_cons, List.length_nil] at h2
          by_cases hj : j = (rowG A x L c).1.length
          · exact ⟨c, by omega, by rw [hj]; exact g2 _⟩
          · obtain ⟨d, d1, d2⟩ := e4 j h1 (by omega)
            exact ⟨d, by omega, by simp only [g1 _ d d1]; exact d2⟩
theorem Found.next (h : Lawful A) {x0 x : σ} {L : List σ} {k : Nat} {B : List Bool} {N : List (List Int)} (hf : Found A x0 L k B N) (hx : L[k]? = some x) :
    Found A x0 (rowG A x L 37).1 (k + 1) (B ++ [A.acc x]) (N ++ [(rowG A x L 37).2]) := by
  obtain ⟨⟨z, e1⟩, e2, e3, e4⟩ := rowG_found h (x := x) (L := L) 37 (Nat.le_refl _)
  have hk := (List.getElem?_eq_some_iff.1 hx).1
  have gL : ∀ j, j < L.length → (rowG A x L 37).1[j]? = L[j]? := fun j hj => by rw [e1, List.getElem?_append_left hj]
  have gN : ∀ j, j < k → (N ++ [(rowG A x L 37).2]).getD j [] = N.getD j [] := fun j hj => by
    rw [List.getD_eq_getElem?_getD, List.getD_eq_getElem?_getD, List.getElem?_append_left (by rw [hf.lenN]; exact hj)]
  have gN2 : (N ++ [(rowG A x L 37).2]).getD k [] = (rowG A x L 37).2 := by
    rw [List.getD_eq_getElem?_getD, List.getElem?_append_right (by rw [hf.lenN]; exact Nat.le_refl _), hf.lenN, Nat.sub_self]; rfl
  have gB : ∀ j, j < k → (B ++ [A.acc x]).getD j false = B.getD j false := fun j hj => by
    rw [List.getD_eq_getElem?_getD, List.getD_eq_getElem?_getD, List.getElem?_append_left (by rw [hf.lenB]; exact hj)]
  have gB2 : (B ++ [A.acc x]).getD k false = A.acc x := by
    rw [List.getD_eq_getElem?_getD, List.getElem?_append_right (by rw [hf.lenB]; exact Nat.le_refl _), hf.lenB, Nat.sub_self]; rfl
  have hlen : L.length ≤ (rowG A x L 37).1.length := by rw [e1]; simp
  refine ⟨by simp [hf.lenB], by simp [hf.lenN], by omega, by rw [gL 0 (by omega)]; exact hf.zero, fun j y hj hy => ?_, fun j hj => ?_, fun j y c hj hy hc => ?_, fun j h0 hj => ?_⟩
  · by_cases hjk : j = k
    · subst hjk
      rw [gL j hk, hx] at hy
      cases hy
      exact gB2
    · rw [gL j (by omega)] at hy
      rw [gB j (by omega)]
      exact hf.acc j y (by omega) hy
  · by_cases hjk : j = k
    · subst hjk; rw [gN2]; exact e2
    · rw [gN j (by omega)]; exact hf.row j (by omega)
  · by_cases hjk : j = k
    · subst hjk
      rw [gL j hk, hx] at hy
      cases hy
      rw [gN2]
      exact e3 c hc
    · rw [gL j (by omega)] at hy
      rw [gN j (by omega)]
      rcases hf.nxt j y c (by omega) hy hc with h1 | ⟨i, h1, h2, h3⟩
      · exact .inl h1
      · refine .inr ⟨i, h1, ?_, h3⟩
        rw [gL i (List.getElem?_eq_some_iff.1 h2).1]
        exact h2
  · by_cases hjL : j < L.length
    · obtain ⟨i, c, h1, h2, h3, h4⟩ := hf.reach j h0 hjL
      exact ⟨i, c, h1, by omega, h3, by rw [gN i h2]; exact h4⟩
    · obtain ⟨d, d1, d2⟩ := e4 j (by omega) hj
      exact ⟨k, d, by omega, by omega, d1, by rw [gN2]; exact d2⟩
theorem bfsG_found (h : Lawful A) {x0 : σ} : ∀ {n : Nat} {L : List σ} {k : Nat} {B : List Bool} {N : List (List Int)} {l : Lang}, L.length ≤ 16 → Found A x0 L k B N → bfsG A n L k B N = some l →
    ∃ L', L'.length ≤ 16 ∧ Found A x0 L' L'.length l.Accept l.Next
  | 0, _, _, _, _, _, _, _, e => by cases e
  | n + 1, L, k, B, N, l, hL, hf, e => by
    unfold bfsG at e
    split at e
    · rename_i x hx
      split at e
      · cases e
      · exact bfsG_found h (by omega) (hf.next h hx) e
    · rename_i hx
      cases e
      have : k = L.length := by
        have := List.getElem?_eq_none_iff.1 hx
        have := hf.le
        omega
      subst this
      exact ⟨L, hL, hf⟩
/-- What the search ends with is an automaton. -/
theorem Found.check {x0 : σ} {L : List σ} {l : Lang} (hf : Found A x0 L L.length l.Accept l.Next) (hL : L.length ≤ 16) : check l = 0 := by
  have h0 := (List.getElem?_eq_some_iff.1 hf.zero).1
  have h1 := hf.lenB
  have h2 := hf.lenN
  unfold Go.Proofs.Ytjnjmnfacaakfaa.check
  rw [if_neg (by omega), if_neg (by omega), if_pos]
  intro j hj
  refine ⟨hf.row j (by omega), fun c hc => ?_⟩
  rw [hf.row j (by omega)] at hc
  rcases hf.nxt j (L[j]'(by omega)) c (by omega) (List.getElem?_eq_getElem (by omega)) hc with h3 | ⟨i, h3, h4, _⟩
  · omega
  · have := (List.getElem?_eq_some_iff.1 h4).1
    omega
/-- .. and it accepts what the automaton of sets accepts. -/
theorem Found.acc_eq (h : Lawful A) {x0 : σ} {L : List σ} {l : Lang} (hf : Found A x0 L L.length l.Accept l.Next) : ∀ (w : List UInt8) (q : Nat) (x : σ), L[q]? = some x → accQ l q w = accW A x w
  | [], q, x, hx => by
    rw [accQ_nil]
    exact hf.acc q x (List.getElem?_eq_some_iff.1 hx).1 hx
  | b :: w, q, x, hx => by
    have hq := (List.getElem?_eq_some_iff.1 hx).1
    rw [Bool.eq_iff_iff, accQ_cons, accW, Bool.and_eq_true, decide_eq_true_eq]
    constructor
    · rintro ⟨h1, h2, h3⟩
      refine ⟨h1, ?_⟩
      have := sym_le (b.toNat : Int)
      rcases hf.nxt q x (sym b.toNat).toNat hq hx (by omega) with ⟨h4, _⟩ | ⟨i, h4, h5, _⟩
      · omega
      · rw [h4, Int.toNat_natCast, hf.acc_eq h w i _ h5] at h3
        exact h3
    · rintro ⟨h1, h3⟩
      have := sym_le (b.toNat : Int)
      rcases hf.nxt q x (sym b.toNat).toNat hq hx (by omega) with ⟨_, h4⟩ | ⟨i, h4, h5, _⟩
      · rw [h.none _ h4] at h3; cases h3
      · refine ⟨h1, by omega, ?_⟩
        rw [h4, Int.toNat_natCast, hf.acc_eq h w i _ h5]
        exact h3
theorem Found.has_eq (h : Lawful A) {x0 : σ} {L : List σ} {l : Lang} (hf : Found A x0 L L.length l.Accept l.Next) (hL : L.length ≤ 16) (w : List UInt8) : has l w = accW A x0 w := by
  rw [has_accQ (hf.check hL), hf.acc_eq h w 0 x0 hf.zero]
theorem found_start (x0 : σ) : Found A x0 [x0] 0 [] [] where
  lenB := rfl
  lenN := rfl
  le := Nat.zero_le _
  zero := rfl
  acc := fun j x hj => by omega
  row := fun j hj => by omega
  nxt := fun j x c hj => by omega
  reach := fun j h0 hj => by simp at hj; omega
end
/-! ### The program's own -/
theorem spF_zero (ps : List Place) (c : Int) : ∀ i, spF ps 0 c i = 0
  | 0 => rfl
  | i + 1 => by
    unfold spF
    rw [if_neg (by simp), spF_zero ps c i]
theorem clF_zero (ps : List Place) : ∀ i, clF ps 0 i = 0
  | 0 => rfl
  | i + 1 => by
    unfold clF
    rw [clF_zero ps i, if_neg (by simp)]
theorem accF_zero (ps : List Place) : ∀ i, accF ps 0 i = false
  | 0 => rfl
  | i + 1 => by
    unfold accF
    rw [accF_zero ps i]
    simp
theorem accW_zero (ps : List Place) : ∀ w, accW (autF ps) 0 w = false
  | [] => accF_zero ps _
  | b :: w => by
    rw [accW, show (autF ps).step 0 (sym b.toNat).toNat = 0 from by show clF ps (spF ps 0 _ _) _ = 0; rw [spF_zero, clF_zero], accW_zero ps w, Bool.and_false]
theorem lawfulF (ps : List Place) : Lawful (autF ps) where
  same := fun x y h => by simpa [autF] using h
  none := fun x h w => by
    have : x = 0 := by simpa [autF] using h
    subst this
    exact accW_zero ps w
theorem accW_bits {ps : List Place} (hp : ps.length ≤ 127) : ∀ (w : List UInt8) (S : Pl) (m : Nat), Bits S m → accW (autP ps) S w = accW (autF ps) m w
  | [], S, m, h => (side_F hp).acc S m h
  | b :: w, S, m, h => by
    rw [accW, accW]
    have := sym_le (b.toNat : Int)
    by_cases hb : 0 ≤ sym b.toNat
    · rw [accW_bits hp w _ _ ((side_F hp).step S m _ (by omega) h)]
    · rw [decide_eq_false hb, Bool.false_and, Bool.false_and]
/-- A pattern's automaton: of which states its own are, and what it accepts. -/
theorem langS_found {s : List UInt8} {l : Lang} (h : langS s = (l, 0)) : ∃ (m : Nat) (L : List Nat), Bits (startS (parseS s)) m ∧ s.length ≤ 64 ∧ (parseS s).isSome = true ∧ L.length ≤ 16 ∧ Found (autF (plOf (parseS s))) m L L.length l.Accept l.Next := by
  rw [langS_F] at h
  unfold langF at h
  split at h
  · cases h
  · rename_i hs
    split at h
    · cases h
    · rename_i h0
      split at h
      · rename_i l' hb
        cases h
        obtain ⟨h1, h2, h3⟩ := parseS_bound (s := s)
        have hp : (plOf (parseS s)).length ≤ 127 := by omega
        have hR : Bits (startS (parseS s)) (closedF (plOf (parseS s)) (startF (stOf (parseS s)) (stOf (parseS s)).length)) := cl_bits (start_bits (fun i hi => by have := h1 i hi; omega) _ (Nat.le_refl _)) _ hp
        obtain ⟨L', h4, h5⟩ := bfsG_found (lawfulF _) (by simp) (found_start _) hb
        exact ⟨_, L', hR, by omega, by cases h6 : (parseS s).isSome <;> simp_all, h4, h5⟩
      · cases h
theorem langS_has {s : List UInt8} {l : Lang} (h : langS s = (l, 0)) (w : List UInt8) : has l w = accW (autP (plOf (parseS s))) (startS (parseS s)) w := by
  obtain ⟨m, L, h1, h2, h3, h4, h5⟩ := langS_found h
  have := parseS_bound (s := s)
  rw [h5.has_eq (lawfulF _) h4, accW_bits (by omega) w _ _ h1]
theorem langS_check {s : List UInt8} {l : Lang} (h : langS s = (l, 0)) : check l = 0 := by
  obtain ⟨m, L, h1, h2, h3, h4, h5⟩ := langS_found h
  exact h5.check h4
end Go.Proofs.Ytjnjmnfacaakfaa
namespace Go.Proofs.Ytjnjmnfacaakfaa
open Go.Eng
def sc (b : UInt8) : Nat := (sym b.toNat).toNat
/-- The words that are accepted from the first of these places on. -/
def pacc : List Place → List UInt8 → Bool
  | [], _ => false
  | p :: ps, [] => p.fEnd || (decide (p.fMore ≠ 0) && pacc ps [])
  | p :: ps, b :: w => (decide (p.fMore ≠ 0) && pacc ps (b :: w)) || (decide (0 ≤ sym b.toNat) && bitOf p.fSet (sc b) && (if p.fMore = 42 then pacc (p :: ps) w else pacc ps w))
termination_by ps w => ps.length + w.length
section
variable {ps : List Place} {S : Pl}
/-- From place i one comes to place j without a symbol. -/
def Chain (ps : List Place) (i j n : Nat) : Prop := ∀ k, i ≤ k → k < j → k < n ∧ (ps.getD k dPlace).fMore ≠ 0
theorem cl_iff : ∀ (n j : Nat), cl ps S n j = true ↔ ∃ i, i ≤ j ∧ S i = true ∧ Chain ps i j n
  | 0, j => by
    constructor
    · intro h
      exact ⟨j, Nat.le_refl _, h, fun k h1 h2 => by omega⟩
    · rintro ⟨i, h1, h2, h3⟩
      have : i = j := by
        by_cases h : i < j
        · have := (h3 i (Nat.le_refl _) h).1; omega
        · omega
      subst this
      exact h2
  | n + 1, j => by
    unfold cl
    split
    · rename_i hc
      obtain ⟨i0, a1, a2, a3⟩ := (cl_iff n n).1 hc.1
      unfold upd
      by_cases hj : j = n + 1
      · rw [if_pos hj]
        refine ⟨fun _ => ⟨i0, by omega, a2, fun k h1 h2 => ?_⟩, fun _ => rfl⟩
        by_cases hk : k = n
        · subst hk; exact ⟨by omega, hc.2⟩
        · have := a3 k h1 (by omega); exact ⟨by omega, this.2⟩
      · rw [if_neg hj, cl_iff n j]
        constructor
        · rintro ⟨i, h1, h2, h3⟩
          exact ⟨i, h1, h2, fun k k1 k2 => ⟨by have := (h3 k k1 k2).1; omega, (h3 k k1 k2).2⟩⟩
        · rintro ⟨i, h1, h2, h3⟩
          refine ⟨i, h1, h2, fun k k1 k2 => ⟨?_, (h3 k k1 k2).2⟩⟩
          have := (h3 k k1 k2).1
          have := (h3 (j - 1) (by omega) (by omega)).1
          omega
    · rename_i hc
      rw [cl_iff n j]
      constructor
      · rintro ⟨i, h1, h2, h3⟩
        exact ⟨i, h1, h2, fun k k1 k2 => ⟨by have := (h3 k k1 k2).1; omega, (h3 k k1 k2).2⟩⟩
      · rintro ⟨i, h1, h2, h3⟩
        refine ⟨i, h1, h2, fun k k1 k2 => ⟨?_, (h3 k k1 k2).2⟩⟩
        have q1 := (h3 k k1 k2).1
        by_cases hk : k = n
        · exfalso
          subst hk
          refine hc ⟨(cl_iff k k).2 ⟨i, k1, h2, fun m m1 m2 => ⟨m2, (h3 m m1 (by omega)).2⟩⟩, (h3 k k1 k2).2⟩
        · omega
theorem closedS_iff (j : Nat) : closedS ps S j = true ↔ ∃ i, i ≤ j ∧ S i = true ∧ Chain ps i j ps.length := cl_iff _ _
theorem acc_iff : ∀ n, acc ps S n = true ↔ ∃ j, j < n ∧ (ps.getD j dPlace).fEnd = true ∧ S j = true
  | 0 => by simp [acc]
  | n + 1 => by
    unfold acc
    rw [Bool.or_eq_true, acc_iff n, Bool.and_eq_true]
    constructor
    · rintro (⟨j, h1, h2⟩ | h)
      · exact ⟨j, by omega, h2⟩
      · exact ⟨n, by omega, h⟩
    · rintro ⟨j, h1, h2⟩
      by_cases hj : j = n
      · subst hj; exact .inr h2
      · exact .inl ⟨j, by omega, h2⟩
/-- The place behind a symbol that place i has. -/
def nxt (ps : List Place) (i : Nat) : Nat := if (ps.getD i dPlace).fMore = 42 then i else i + 1
theorem sp_iff {c : Int} : ∀ (n j : Nat), sp ps S c n j = true ↔ ∃ i, i < n ∧ S i = true ∧ bitOf (ps.getD i dPlace).fSet c = true ∧ j = nxt ps i
  | 0, j => by simp [sp]
  | n + 1, j => by
    have key : sp ps S c (n + 1) j = true ↔ (sp ps S c n j = true ∨ (S n = true ∧ bitOf (ps.getD n dPlace).fSet c = true ∧ j = nxt ps n)) := by
      rw [sp]
      by_cases hc : S n = true ∧ bitOf (ps.getD n dPlace).fSet c = true
      · rw [if_pos hc]
        unfold nxt
        by_cases hm : (ps.getD n dPlace).fMore = 42
        · rw [if_pos hm, if_pos hm]
          unfold upd
          by_cases hj : j = n
          · rw [if_pos hj]; exact ⟨fun _ => .inr ⟨hc.1, hc.2, hj⟩, fun _ => rfl⟩
          · rw [if_neg hj]; exact ⟨.inl, fun h => h.elim id fun h => absurd h.2.2 hj⟩
        · rw [if_neg hm, if_neg hm]
          unfold upd
          by_cases hj : j = n + 1
          · rw [if_pos hj]; exact ⟨fun _ => .inr ⟨hc.1, hc.2, hj⟩, fun _ => rfl⟩
          · rw [if_neg hj]; exact ⟨.inl, fun h => h.elim id fun h => absurd h.2.2 hj⟩
      · rw [if_neg hc]
        exact ⟨.inl, fun h => h.elim id fun h => absurd ⟨h.1, h.2.1⟩ hc⟩
    rw [key, sp_iff n j]
    constructor
    · rintro (⟨i, h1, h2⟩ | h)
      · exact ⟨i, by omega, h2⟩
      · exact ⟨n, by omega, h⟩
    · rintro ⟨i, h1, h2⟩
      by_cases hi : i = n
      · subst hi; exact .inr h2
      · exact .inl ⟨i, by omega, h2⟩
theorem drop_cons {i : Nat} (h : i < ps.length) : ps.drop i = ps.getD i dPlace :: ps.drop (i + 1) := drop_get h
/-- A step of pacc, said by the place's number. -/
theorem pacc_nil {i : Nat} (h : i < ps.length) : pacc (ps.drop i) [] = true ↔ (ps.getD i dPlace).fEnd = true ∨ ((ps.getD i dPlace).fMore ≠ 0 ∧ pacc (ps.drop (i + 1)) [] = true) := by
  rw [drop_cons h, pacc, Bool.or_eq_true, Bool.and_eq_true, decide_eq_true_eq]
theorem pacc_cons {i : Nat} (h : i < ps.length) {b : UInt8} {w : List UInt8} : pacc (ps.drop i) (b :: w) = true ↔ ((ps.getD i dPlace).fMore ≠ 0 ∧ pacc (ps.drop (i + 1)) (b :: w) = true) ∨ (0 ≤ sym b.toNat ∧ bitOf (ps.getD i dPlace).fSet (sc b) = true ∧ pacc (ps.drop (nxt ps i)) w = true) := by
  rw [drop_cons h, pacc, Bool.or_eq_true, Bool.and_eq_true, Bool.and_eq_true, Bool.and_eq_true, decide_eq_true_eq, decide_eq_true_eq, and_assoc]
  unfold nxt
  by_cases hm : (ps.getD i dPlace).fMore = 42
  · rw [if_pos hm, if_pos hm, drop_cons h]
  · rw [if_neg hm, if_neg hm]
theorem pacc_lt {i : Nat} {w : List UInt8} (h : pacc (ps.drop i) w = true) : i < ps.length := by
  by_cases hi : i < ps.length
  · exact hi
  · rw [List.drop_of_length_le (by omega), pacc] at h
    cases h
theorem pacc_chain {w : List UInt8} {j : Nat} (h : pacc (ps.drop j) w = true) : ∀ (d i : Nat), i + d = j → Chain ps i j ps.length → pacc (ps.drop i) w = true
  | 0, i, e, _ => by obtain rfl : i = j := by omega
                     exact h
  | d + 1, i, e, hc => by
    have h1 := hc i (Nat.le_refl _) (by omega)
    have h2 := pacc_chain h d (i + 1) (by omega) (fun k k1 k2 => hc k (by omega) k2)
    cases w with
    | nil => exact (pacc_nil h1.1).2 (.inr ⟨h1.2, h2⟩)
    | cons b w => exact (pacc_cons h1.1).2 (.inl ⟨h1.2, h2⟩)
theorem pacc_inv_nil : ∀ (d i : Nat), i + d = ps.length → pacc (ps.drop i) [] = true → ∃ j, i ≤ j ∧ j < ps.length ∧ Chain ps i j ps.length ∧ (ps.getD j dPlace).fEnd = true
  | 0, i, e, h => by have := pacc_lt h; omega
  | d + 1, i, e, h => by
    rcases (pacc_nil (by omega)).1 h with h1 | ⟨h1, h2⟩
    · exact ⟨i, Nat.le_refl _, by omega, fun k k1 k2 => by omega, h1⟩
    · obtain ⟨j, a1, a2, a3, a4⟩ := pacc_inv_nil d (i + 1) (by omega) h2
      refine ⟨j, by omega, a2, fun k k1 k2 => ?_, a4⟩
      by_cases hk : k = i
      · subst hk; exact ⟨by omega, h1⟩
      · exact a3 k (by omega) k2
theorem pacc_inv_cons {b : UInt8} {w : List UInt8} : ∀ (d i : Nat), i + d = ps.length → pacc (ps.drop i) (b :: w) = true →
    ∃ j, i ≤ j ∧ j < ps.length ∧ Chain ps i j ps.length ∧ 0 ≤ sym b.toNat ∧ bitOf (ps.getD j dPlace).fSet (sc b) = true ∧ pacc (ps.drop (nxt ps j)) w = true
  | 0, i, e, h => by have := pacc_lt h; omega
  | d + 1, i, e, h => by
    rcases (pacc_cons (by omega)).1 h with ⟨h1, h2⟩ | h1
    · obtain ⟨j, a1, a2, a3, a4⟩ := pacc_inv_cons d (i + 1) (by omega) h2
      refine ⟨j, by omega, a2, fun k k1 k2 => ?_, a4⟩
      by_cases hk : k = i
      · subst hk; exact ⟨by omega, h1⟩
      · exact a3 k (by omega) k2
    · exact ⟨i, Nat.le_refl _, by omega, fun k k1 k2 => by omega, h1⟩
theorem accW_iff : ∀ (w : List UInt8) (S : Pl), accW (autP ps) (closedS ps S) w = true ↔ ∃ i, S i = true ∧ pacc (ps.drop i) w = true
  | [], S => by
    have e : accW (autP ps) (closedS ps S) [] = acc ps (closedS ps S) ps.length := rfl
    rw [e, acc_iff]
    constructor
    · rintro ⟨j, h1, h2, h3⟩
      obtain ⟨i, a1, a2, a3⟩ := (closedS_iff j).1 h3
      exact ⟨i, a2, pacc_chain ((pacc_nil h1).2 (.inl h2)) (j - i) i (by omega) a3⟩
    · rintro ⟨i, h1, h2⟩
      have := pacc_lt h2
      obtain ⟨j, a1, a2, a3, a4⟩ := pacc_inv_nil (ps.length - i) i (by omega) h2
      exact ⟨j, a2, a4, (closedS_iff j).2 ⟨i, a1, h1, a3⟩⟩
  | b :: w, S => by
    have e : accW (autP ps) (closedS ps S) (b :: w) = (decide (0 ≤ sym b.toNat) && accW (autP ps) (closedS ps (sp ps (closedS ps S) (sc b) ps.length)) w) := rfl
    rw [e, Bool.and_eq_true, decide_eq_true_eq, accW_iff w]
    constructor
    · rintro ⟨h0, j', h1, h2⟩
      obtain ⟨j, a1, a2, a3, rfl⟩ := (sp_iff _ _).1 h1
      obtain ⟨i, b1, b2, b3⟩ := (closedS_iff j).1 a2
      exact ⟨i, b2, pacc_chain ((pacc_cons a1).2 (.inr ⟨h0, a3, h2⟩)) (j - i) i (by omega) b3⟩
    · rintro ⟨i, h1, h2⟩
      have := pacc_lt h2
      obtain ⟨j, a1, a2, a3, a4, a5, a6⟩ := pacc_inv_cons (ps.length - i) i (by omega) h2
      exact ⟨a4, nxt ps j, (sp_iff _ _).2 ⟨j, a2, (closedS_iff j).2 ⟨i, a1, h1, a3⟩, a5, rfl⟩, a6⟩
end
theorem startAt_iff {st : List Int} : ∀ (n j : Nat), startAt st n j = true ↔ ∃ i, i < n ∧ (st.getD i 0).toNat = j
  | 0, j => by simp [startAt, noSet]
  | n + 1, j => by
    unfold startAt upd
    by_cases hj : j = (st.getD n 0).toNat
    · rw [if_pos hj]
      exact ⟨fun _ => ⟨n, by omega, hj.symm⟩, fun _ => rfl⟩
    · rw [if_neg hj, startAt_iff n j]
      constructor
      · rintro ⟨i, h1, h2⟩
        exact ⟨i, by omega, h2⟩
      · rintro ⟨i, h1, h2⟩
        by_cases hi : i = n
        · subst hi; exact absurd h2.symm hj
        · exact ⟨i, by omega, h2⟩
/-- The words of a pattern's automaton. -/
theorem langS_words {s : List UInt8} {l : Lang} (h : langS s = (l, 0)) (w : List UInt8) : has l w = true ↔ ∃ i, i < (stOf (parseS s)).length ∧ pacc ((plOf (parseS s)).drop ((stOf (parseS s)).getD i 0).toNat) w = true := by
  rw [langS_has h w]
  unfold startS
  rw [accW_iff]
  constructor
  · rintro ⟨j, h1, h2⟩
    obtain ⟨i, a1, rfl⟩ := (startAt_iff _ _).1 h1
    exact ⟨i, a1, h2⟩
  · rintro ⟨i, h1, h2⟩
    exact ⟨_, (startAt_iff _ _).2 ⟨i, h1, rfl⟩, h2⟩
end Go.Proofs.Ytjnjmnfacaakfaa
namespace Go.Proofs.Ytjnjmnfacaakfaa
open Go.Eng
/-- The places of a pattern, branch by branch; cur: those of the branch that is under way. -/
def parseB : Nat → List Place → List UInt8 → Option (List (List Place))
  | 0, _, _ => none
  | n + 1, cur, r => if r = [] ∨ ((r.getD 0 0).toNat : Int) = 124 then
      (if cur = [] then none else if r = [] then some [cur ++ [endP]] else (parseB n [] (r.drop 1)).map fun bs => (cur ++ [endP]) :: bs)
    else if (pSet r).isSome = true then
      (if pMore (pSet r) = 43 then parseB n (cur ++ [({ fSet := cSet (pSet r) } : Place)] ++ [({ fSet := cSet (pSet r), fMore := 42 } : Place)]) (pRest (pSet r))
        else parseB n (cur ++ [({ fSet := cSet (pSet r), fMore := pMore (pSet r) } : Place)]) (pRest (pSet r)))
    else none
def branchesS (s : List UInt8) : Option (List (List Place)) := parseB (s.length + 1) [] s
def offs : Nat → List (List Place) → List Int
  | _, [] => []
  | d, b :: bs => (d : Int) :: offs (d + b.length) bs
theorem parseB_ne : ∀ {k : Nat} {cur : List Place} {r : List UInt8} {bs : List (List Place)}, parseB k cur r = some bs → bs ≠ []
  | 0, _, _, _, h => by cases h
  | k + 1, cur, r, bs, h => by
    unfold parseB at h
    split at h
    · split at h
      · cases h
      · split at h
        · cases h; simp
        · rw [Option.map_eq_some_iff] at h
          obtain ⟨y, _, rfl⟩ := h
          simp
    · split at h
      · split at h
        · exact parseB_ne h
        · exact parseB_ne h
      · cases h
theorem parseM_B : ∀ {k : Nat} {dn cur : List Place} {st : List Int} {r : List UInt8}, 0 < st.length → st.getD (st.length - 1) 0 = (dn.length : Int) →
    parseM k (dn ++ cur) st r = (parseB k cur r).map fun bs => (dn ++ bs.flatten, st ++ (offs dn.length bs).tail)
  | 0, _, _, _, _, _, _ => rfl
  | k + 1, dn, cur, st, r, h0, h1 => by
    unfold parseM parseB
    have e1 : (((st.length : Nat) : Int) - 1).toNat = st.length - 1 := by omega
    rw [e1, h1]
    by_cases hr : r = [] ∨ ((r.getD 0 0).toNat : Int) = 124
    · rw [if_pos hr, if_pos hr]
      by_cases hc : cur = []
      · subst hc
        rw [if_pos (by simp), if_pos rfl]; rfl
      · have hcl := List.length_pos_iff.2 hc
        rw [if_neg (by simp; omega), if_neg hc]
        by_cases hn : r = []
        · rw [if_pos hn, if_pos hn]
          simp [offs]
        · rw [if_neg hn, if_neg hn]
          have ih := parseM_B (k := k) (dn := dn ++ cur ++ [endP]) (cur := []) (st := st ++ [(((dn ++ cur ++ [endP]).length : Nat) : Int)]) (r := r.drop 1) (by simp)
            (by simp [List.getD_eq_getElem?_getD])
          rw [List.append_nil] at ih
          rw [ih]
          cases hb : parseB k [] (r.drop 1) with
          | none => rfl
          | some bs =>
            cases bs with
            | nil => exact absurd rfl (parseB_ne hb)
            | cons b bs =>
              simp only [Option.map_some, List.flatten_cons, List.append_assoc, offs, List.tail_cons, List.length_append, List.length_cons, List.length_nil, List.cons_append, List.nil_append, Option.some.injEq, Prod.mk.injEq, true_and, Nat.zero_add]
    · rw [if_neg hr, if_neg hr]
      by_cases hs : (pSet r).isSome = true
      · rw [if_pos hs, if_pos hs]
        by_cases hm : pMore (pSet r) = 43
        · rw [if_pos hm, if_pos hm]
          have ih := parseM_B (k := k) (dn := dn) (cur := cur ++ [({ fSet := cSet (pSet r) } : Place)] ++ [({ fSet := cSet (pSet r), fMore := 42 } : Place)]) (st := st) (r := pRest (pSet r)) h0 h1
          rw [← ih]
          simp only [List.append_assoc]
        · rw [if_neg hm, if_neg hm]
          have ih := parseM_B (k := k) (dn := dn) (cur := cur ++ [({ fSet := cSet (pSet r), fMore := pMore (pSet r) } : Place)]) (st := st) (r := pRest (pSet r)) h0 h1
          rw [← ih]
          simp only [List.append_assoc]
      · rw [if_neg hs, if_neg hs]; rfl
theorem parseS_B (s : List UInt8) : parseS s = (branchesS s).map fun bs => (bs.flatten, offs 0 bs) := by
  have h := parseM_B (k := s.length + 1) (dn := []) (cur := []) (st := [0]) (r := s) (by simp) rfl
  unfold parseS branchesS
  rw [List.append_nil] at h
  rw [h]
  cases hb : parseB (s.length + 1) [] s with
  | none => rfl
  | some bs =>
    cases bs with
    | nil => exact absurd rfl (parseB_ne hb)
    | cons b bs => simp [offs]
theorem parseB_end : ∀ {k : Nat} {cur : List Place} {r : List UInt8} {bs : List (List Place)}, parseB k cur r = some bs → ∀ b ∈ bs, ∃ c, c ≠ [] ∧ b = c ++ [endP]
  | 0, _, _, _, h => by cases h
  | k + 1, cur, r, bs, h => by
    unfold parseB at h
    split at h
    · split at h
      · cases h
      · rename_i hc
        split at h
        · cases h
          intro b hb
          simp only [List.mem_singleton] at hb
          exact ⟨cur, hc, hb⟩
        · rw [Option.map_eq_some_iff] at h
          obtain ⟨y, hy, rfl⟩ := h
          intro b hb
          rcases List.mem_cons.1 hb with rfl | hb
          · exact ⟨cur, hc, rfl⟩
          · exact parseB_end hy b hb
    · split at h
      · split at h
        · exact parseB_end h
        · exact parseB_end h
      · cases h
/-! ### A branch alone -/
theorem bit0 (c : Nat) : bitOf 0 c = false := by
  unfold bitOf
  have : (0 : Int).fdiv (2 ^ min (c : Int).toNat (IntKind.bits .u64)) = 0 := Int.zero_fdiv _
  rw [this]
  rfl
theorem pacc_end (qs : List Place) : ∀ w, pacc (endP :: qs) w = pacc [endP] w
  | [] => by simp [pacc, endP]
  | b :: w => by simp [pacc, endP, bit0]
theorem pacc_app (qs : List Place) : ∀ (ps : List Place) (w : List UInt8), pacc (ps ++ endP :: qs) w = pacc (ps ++ [endP]) w
  | [], w => pacc_end qs w
  | p :: ps, [] => by
    rw [List.cons_append, List.cons_append, pacc, pacc, pacc_app qs ps []]
  | p :: ps, b :: w => by
    have h1 := pacc_app qs ps (b :: w)
    have h2 := pacc_app qs ps w
    have h3 := pacc_app qs (p :: ps) w
    rw [List.cons_append, List.cons_append] at h3
    rw [List.cons_append, List.cons_append, pacc, pacc, h1, h2, h3]
termination_by ps w => ps.length + w.length
theorem offs_len : ∀ (d : Nat) (bs : List (List Place)), (offs d bs).length = bs.length
  | _, [] => rfl
  | d, b :: bs => by simp [offs, offs_len (d + b.length) bs]
theorem offs_acc (w : List UInt8) : ∀ (bs : List (List Place)) (dn : List Place), (∀ b ∈ bs, ∃ c, c ≠ [] ∧ b = c ++ [endP]) →
    ((∃ i, i < bs.length ∧ pacc ((dn ++ bs.flatten).drop ((offs dn.length bs).getD i 0).toNat) w = true) ↔ ∃ b ∈ bs, pacc b w = true)
  | [], dn, _ => by simp
  | b :: bs, dn, h => by
    obtain ⟨c, hc, hb⟩ := h b (by simp)
    have ih := offs_acc w bs (dn ++ b) (fun x hx => h x (by simp [hx]))
    have e0 : pacc ((dn ++ (b :: bs).flatten).drop ((offs dn.length (b :: bs)).getD 0 0).toNat) w = pacc b w := by
      simp only [offs, List.getD_cons_zero, Int.toNat_natCast, List.drop_left, List.flatten_cons]
      rw [hb, List.append_assoc]
      exact pacc_app _ c w
    have eS : ∀ i, pacc ((dn ++ (b :: bs).flatten).drop ((offs dn.length (b :: bs)).getD (i + 1) 0).toNat) w = pacc ((dn ++ b ++ bs.flatten).drop ((offs (dn ++ b).length bs).getD i 0).toNat) w := fun i => by
      simp only [offs, List.getD_cons_succ, List.flatten_cons, List.append_assoc, List.length_append]
    constructor
    · rintro ⟨i, h1, h2⟩
      cases i with
      | zero => exact ⟨b, by simp, by rw [← e0]; exact h2⟩
      | succ i =>
        rw [eS] at h2
        obtain ⟨x, x1, x2⟩ := ih.1 ⟨i, by simpa using h1, h2⟩
        exact ⟨x, by simp [x1], x2⟩
    · rintro ⟨x, x1, x2⟩
      rcases List.mem_cons.1 x1 with rfl | x1
      · exact ⟨0, by simp, by rw [e0]; exact x2⟩
      · obtain ⟨i, h1, h2⟩ := ih.2 ⟨x, x1, x2⟩
        exact ⟨i + 1, by simpa using h1, by rw [eS]; exact h2⟩
/-- The words of a pattern's automaton are those of its branches. -/
theorem langS_B {s : List UInt8} {l : Lang} (h : langS s = (l, 0)) : ∃ bs, branchesS s = some bs ∧ ∀ w, (has l w = true ↔ ∃ b ∈ bs, pacc b w = true) := by
  have hi := (langS_found h)
  obtain ⟨m, L, _, _, hs, _, _⟩ := hi
  rw [parseS_B] at hs
  cases hb : branchesS s with
  | none => rw [hb] at hs; cases hs
  | some bs =>
    refine ⟨bs, rfl, fun w => ?_⟩
    have he := parseB_end hb
    rw [langS_words h w, parseS_B, hb]
    have := offs_acc w bs [] he
    simp only [Option.map_some, plOf, stOf, offs_len]
    exact this
/-! ### A bar between two patterns -/
theorem getD_app0 {r x : List UInt8} (h : 0 < r.length) : (r ++ x).getD 0 0 = r.getD 0 0 := by
  rw [List.getD_eq_getElem?_getD, List.getD_eq_getElem?_getD, List.getElem?_append_left h]
theorem indexByte_app {c : UInt8} (x : List UInt8) : ∀ {s : List UInt8}, 0 ≤ Lib.indexByte s c → Lib.indexByte (s ++ x) c = Lib.indexByte s c
  | [], h => by simp [Lib.indexByte] at h
  | b :: s, h => by
    simp only [List.cons_append, Lib.indexByte] at h ⊢
    split
    · rfl
    · rename_i hb
      rw [if_neg hb] at h
      have hge := Lib.indexByte_ge s c
      have h1 : 0 ≤ Lib.indexByte s c := by
        by_cases hm : Lib.indexByte s c = -1
        · rw [hm] at h; simp at h
        · omega
      rw [indexByte_app x h1]
theorem cutB_app {s : List UInt8} {c : UInt8} (x : List UInt8) (h : (cutB s c).2.2 = true) : cutB (s ++ x) c = ((cutB s c).1, (cutB s c).2.1 ++ x, true) := by
  have h0 : 0 ≤ Lib.indexByte s c := by
    unfold cutB at h
    split at h
    · assumption
    · cases h
  have hlt := indexByte_lt s c
  unfold cutB
  rw [indexByte_app x h0, if_pos h0, if_pos h0]
  simp only [Prod.mk.injEq, and_true]
  refine ⟨?_, ?_⟩
  · rw [List.take_append_of_le_length (by omega)]
  · rw [List.drop_append_of_le_length (by omega)]
theorem classS_app {s q x : List UInt8} {S : Nat → Bool} (h : classS s = some (S, q)) : classS (s ++ x) = some (S, q ++ x) := by
  unfold classS at h ⊢
  split at h
  · cases h
  · rename_i hc
    rw [not_or] at hc
    have h2 : (cutB s 93).2.2 = true := by simpa using hc.1
    rw [cutB_app x h2, if_neg (by rw [not_or]; exact ⟨by simp, hc.2⟩)]
    rw [Option.map_eq_some_iff] at h ⊢
    obtain ⟨S', h3, h4⟩ := h
    simp only [Prod.mk.injEq] at h4
    exact ⟨S', h3, by simp [h4.1, h4.2]⟩
theorem pSet_app {r q x : List UInt8} {S : Nat → Bool} (h0 : 0 < r.length) (h : pSet r = some (S, q)) : pSet (r ++ x) = some (S, q ++ x) := by
  unfold pSet at h ⊢
  rw [getD_app0 h0]
  split at h
  · rename_i hb
    rw [if_pos hb, List.drop_append_of_le_length (by omega)]
    exact classS_app h
  · rename_i hb
    rw [if_neg hb]
    split at h
    · rename_i hn
      rw [if_pos hn]
      simp only [Option.some.injEq, Prod.mk.injEq] at h
      rw [h.1, List.drop_append_of_le_length (by omega), h.2]
    · cases h
/-- What may stand behind a piece without being taken for its sign. -/
def Apart (x : List UInt8) : Prop := x = [] ∨ moreB (x.getD 0 0) = false
theorem parseB_fuel : ∀ {k k' : Nat} {cur : List Place} {r : List UInt8}, r.length < k → r.length < k' → parseB k cur r = parseB k' cur r
  | 0, _, _, _, h, _ => by omega
  | _ + 1, 0, _, _, _, h => by omega
  | k + 1, k' + 1, cur, r, h1, h2 => by
    unfold parseB
    by_cases hr : r = [] ∨ ((r.getD 0 0).toNat : Int) = 124
    · rw [if_pos hr, if_pos hr]
      by_cases hn : r = []
      · rw [if_pos hn, if_pos hn]
      · have := List.length_pos_iff.2 hn
        rw [if_neg hn, if_neg hn, parseB_fuel (k := k) (k' := k') (by simp; omega) (by simp; omega)]
    · rw [if_neg hr, if_neg hr]
      have := List.length_pos_iff.2 (fun e => hr (.inl e))
      have q := pRest_le this
      split
      · split
        · exact parseB_fuel (by omega) (by omega)
        · exact parseB_fuel (by omega) (by omega)
      · rfl
end Go.Proofs.Ytjnjmnfacaakfaa
namespace Go.Proofs.Ytjnjmnfacaakfaa
open Go.Eng
end Go.Proofs.Ytjnjmnfacaakfaa
namespace Go.Proofs.Ytjnjmnfacaakfaa
open Go.Eng
/-- Behind s the parse is in a branch; nf: which has a place. -/
def Open (s : List UInt8) (nf : Prop) : Prop := ∀ x, Apart x → ∃ dn cur, (nf → cur ≠ []) ∧ ∀ k, (s ++ x).length < k → parseB k [] (s ++ x) = (parseB (x.length + 1) cur x).map fun bs => dn ++ bs
theorem open_nil : Open [] False := fun x _ => ⟨[], [], fun h => h.elim, fun k hk => by
  rw [List.nil_append] at hk ⊢
  rw [parseB_fuel hk (Nat.lt_succ_self _)]
  cases parseB (x.length + 1) [] x <;> simp⟩
theorem tabA_ok : ∀ i : Fin 12, (pSet (tabA.getD i.val [])).isSome = true ∧ cRest (pSet (tabA.getD i.val [])) = [] ∧ tabA.getD i.val [] ≠ [] ∧ moreB ((tabA.getD i.val []).getD 0 0) = false ∧ (tabA.getD i.val []).getD 0 0 ≠ 124 := by decide +kernel
theorem tabB_ok : ∀ j : Fin 6, tabB.getD j.val [] = [] ∨ ∃ c, tabB.getD j.val [] = [c] ∧ moreB c = true := by
  intro j
  match j with
  | ⟨0, _⟩ => exact .inl rfl
  | ⟨1, _⟩ => exact .inl rfl
  | ⟨2, _⟩ => exact .inl rfl
  | ⟨3, _⟩ => exact .inr ⟨63, rfl, by decide +kernel⟩
  | ⟨4, _⟩ => exact .inr ⟨43, rfl, by decide +kernel⟩
  | ⟨5, _⟩ => exact .inr ⟨42, rfl, by decide +kernel⟩
theorem apart_app {p x : List UInt8} (h0 : p ≠ []) (h : moreB (p.getD 0 0) = false) : Apart (p ++ x) := .inr (by rw [getD_app0 (List.length_pos_iff.2 h0)]; exact h)
theorem piece_step {a b x : List UInt8} {cur : List Place} (h1 : (pSet a).isSome = true) (h2 : cRest (pSet a) = []) (h3 : a ≠ []) (h5 : a.getD 0 0 ≠ 124) (hb : b = [] ∨ ∃ c, b = [c] ∧ moreB c = true) (hx : Apart x) :
    ∃ cur', cur' ≠ [] ∧ ∀ cur k, (a ++ b ++ x).length < k → parseB k cur (a ++ b ++ x) = parseB (x.length + 1) (cur ++ cur') x := by
  have hl := List.length_pos_iff.2 h3
  cases hp : pSet a with
  | none => rw [hp] at h1; cases h1
  | some y =>
    obtain ⟨S, q⟩ := y
    rw [hp] at h2
    have h2 : q = [] := h2
    subst h2
    have e : pSet (a ++ b ++ x) = some (S, b ++ x) := by rw [List.append_assoc, pSet_app hl hp, List.nil_append]
    have er : pRest (pSet (a ++ b ++ x)) = x := by
      rw [e]
      unfold pRest
      rcases hb with rfl | ⟨c, rfl, hc⟩
      · rw [List.nil_append]
        rw [if_neg]
        · rfl
        · intro h
          rcases hx with rfl | hx
          · exact h.2.1 rfl
          · have := h.2.2
            simp only [cRest] at this
            rw [hx] at this; cases this
      · rw [if_pos ⟨rfl, by simp [cRest], hc⟩]
        rfl
    have hr : ¬ (a ++ b ++ x = [] ∨ (((a ++ b ++ x).getD 0 0).toNat : Int) = 124) := by
      rw [List.append_assoc, getD_app0 hl]
      rintro (h | h)
      · simp [h3] at h
      · apply h5
        have : (a.getD 0 0).toNat = (124 : UInt8).toNat := by
          show _ = 124
          omega
        exact UInt8.toNat_inj.1 this
    have hs : (pSet (a ++ b ++ x)).isSome = true := by rw [e]; rfl
    have step : ∀ cur k, (a ++ b ++ x).length < k → parseB k cur (a ++ b ++ x) = if pMore (pSet (a ++ b ++ x)) = 43 then parseB (k - 1) (cur ++ [({ fSet := cSet (pSet (a ++ b ++ x)) } : Place)] ++ [({ fSet := cSet (pSet (a ++ b ++ x)), fMore := 42 } : Place)]) x
        else parseB (k - 1) (cur ++ [({ fSet := cSet (pSet (a ++ b ++ x)), fMore := pMore (pSet (a ++ b ++ x)) } : Place)]) x := fun cur k hk => by
      obtain ⟨k, rfl⟩ : ∃ j, k = j + 1 := ⟨k - 1, by omega⟩
      rw [parseB, if_neg hr, if_pos hs, er]
      rfl
    have hxl : ∀ k, (a ++ b ++ x).length < k → x.length < k - 1 := fun k hk => by
      simp only [List.length_append] at hk
      omega
    by_cases hm : pMore (pSet (a ++ b ++ x)) = 43
    · refine ⟨[({ fSet := cSet (pSet (a ++ b ++ x)) } : Place)] ++ [({ fSet := cSet (pSet (a ++ b ++ x)), fMore := 42 } : Place)], by simp, fun cur k hk => ?_⟩
      rw [step cur k hk, if_pos hm, ← List.append_assoc]
      exact parseB_fuel (hxl k hk) (Nat.lt_succ_self _)
    · refine ⟨[({ fSet := cSet (pSet (a ++ b ++ x)), fMore := pMore (pSet (a ++ b ++ x)) } : Place)], by simp, fun cur k hk => ?_⟩
      rw [step cur k hk, if_neg hm]
      exact parseB_fuel (hxl k hk) (Nat.lt_succ_self _)
theorem open_piece {s a b : List UInt8} {nf : Prop} (ho : Open s nf) (h1 : (pSet a).isSome = true) (h2 : cRest (pSet a) = []) (h3 : a ≠ []) (h4 : moreB (a.getD 0 0) = false) (h5 : a.getD 0 0 ≠ 124) (hb : b = [] ∨ ∃ c, b = [c] ∧ moreB c = true) : Open (s ++ a ++ b) True := by
  intro x hx
  obtain ⟨dn, cur, _, h⟩ := ho (a ++ b ++ x) (by rw [List.append_assoc]; exact apart_app h3 h4)
  obtain ⟨cur', hne, hp⟩ := piece_step h1 h2 h3 h5 hb hx (cur := cur)
  refine ⟨dn, cur ++ cur', fun _ => by simp [hne], fun k hk => ?_⟩
  have e : s ++ a ++ b ++ x = s ++ (a ++ b ++ x) := by simp
  rw [e] at hk ⊢
  rw [h k hk, hp cur _ (Nat.lt_succ_self _)]
theorem open_bar {s : List UInt8} (ho : Open s True) : Open (s ++ [124]) False := by
  intro x hx
  obtain ⟨dn, cur, hne, h⟩ := ho (124 :: x) (.inr (by show moreB 124 = false; decide +kernel))
  refine ⟨dn ++ [cur ++ [endP]], [], fun h => h.elim, fun k hk => ?_⟩
  have e : s ++ [124] ++ x = s ++ 124 :: x := by simp
  rw [e] at hk ⊢
  rw [h k hk, List.length_cons, parseB, if_pos (.inr rfl), if_neg (hne trivial), if_neg (by simp)]
  rw [show (124 :: x).drop 1 = x from rfl]
  cases parseB (x.length + 1) [] x <;> simp
theorem open_end {s : List UInt8} (ho : Open s True) : (branchesS s).isSome = true := by
  obtain ⟨dn, cur, hne, h⟩ := ho [] (.inl rfl)
  have := h (s.length + 1) (by simp)
  rw [List.append_nil] at this
  unfold branchesS
  rw [this, parseB, if_pos (.inl rfl), if_neg (hne trivial), if_pos rfl]
  rfl
theorem open_pieceD {x : Pt} {nf : Prop} (ho : Open x.2 nf) : Open (pieceD x).2 True := by
  have v1 := nextV_lt x.1 (n := 12) (by omega)
  have v2 := nextV_lt (nextD x.1) (n := 6) (by omega)
  obtain ⟨a1, a2, a3, a4, a5⟩ := tabA_ok ⟨(nextV x.1 12).toNat, by omega⟩
  exact open_piece ho a1 a2 a3 a4 a5 (tabB_ok ⟨(nextV (nextD x.1) 6).toNat, by omega⟩)
theorem open_pieces {x : Pt} {nf : Prop} (ho : Open x.2 nf) : ∀ n, Open (piecesD x (n + 1)).2 True
  | 0 => open_pieceD (x := piecesD x 0) ho
  | n + 1 => open_pieceD (open_pieces ho n)
theorem open_branches (l : List Int) : ∀ k, Open (branchesD l (k + 1)).2 True
  | 0 => by
    have h3 := nextV_lt (barD 0 (branchesD l 0)).1 (n := 3) (by omega)
    have e : (1 + nextV (barD 0 (branchesD l 0)).1 3).toNat = (nextV (barD 0 (branchesD l 0)).1 3).toNat + 1 := by omega
    show Open (piecesD (headD 0 (branchesD l 0)) (1 + nextV (barD 0 (branchesD l 0)).1 3).toNat).2 True
    rw [e]
    exact open_pieces (nf := False) open_nil _
  | k + 1 => by
    have h3 := nextV_lt (barD (k + 1) (branchesD l (k + 1))).1 (n := 3) (by omega)
    have e : (1 + nextV (barD (k + 1) (branchesD l (k + 1))).1 3).toNat = (nextV (barD (k + 1) (branchesD l (k + 1))).1 3).toNat + 1 := by omega
    show Open (piecesD (headD (k + 1) (branchesD l (k + 1))) (1 + nextV (barD (k + 1) (branchesD l (k + 1))).1 3).toNat).2 True
    rw [e]
    refine open_pieces (nf := False) ?_ _
    show Open (barD (k + 1) (branchesD l (k + 1))).2 False
    unfold barD
    rw [if_pos (by omega)]
    exact open_bar (open_branches l k)
theorem patS_branches (l : List Int) : (branchesS (patS l)).isSome = true := by
  have hv := nextV_lt ({ L := l, At := 0 } : Draw) (n := 2) (by omega)
  have e : (1 + nextV ({ L := l, At := 0 } : Draw) 2).toNat = (nextV ({ L := l, At := 0 } : Draw) 2).toNat + 1 := by omega
  unfold patS
  rw [e]
  exact open_end (open_branches l _)
theorem langS_ok {s : List UInt8} (h : (branchesS s).isSome = true) : (langS s).2 = 0 ∨ (langS s).2 = 2 := by
  unfold langS
  split
  · exact .inr rfl
  · split
    · rename_i h1
      rw [parseS_B] at h1
      cases hb : branchesS s with
      | none => rw [hb] at h; cases h
      | some bs => rw [hb] at h1; cases h1
    · split
      · exact .inl rfl
      · exact .inr rfl
end Go.Proofs.Ytjnjmnfacaakfaa
namespace Go.Proofs.Ytjnjmnfacaakfaa
open Go.Eng
theorem sanity_ok  : Pure Try.prog 8 [] (vbool true) := by
  refine pure_of (fn := Try.f8) Try.func8 rfl rfl fun F_ W0_ => ?_
  refine tr_seq ?_
  refine tr_r (vc := []) (E' := []) (H' := []) [] [] [] (by kernel_rfl) ?_ ?_
  · exact trivial
  refine tr_then ?_
  refine tr_seq ?_
  refine tr_r (vc := [Pure Try.prog 11 [.s ([91, 97, 45, 99, 93, 43, 49, 63] : List UInt8)] (.tup [.p (eLang ((langS ([91, 97, 45, 99, 93, 43, 49, 63] : List UInt8)).1)), vint .i64 ((langS ([91, 97, 45, 99, 93, 43, 49, 63] : List UInt8)).2)]), (.p (eLang ((langS ([91, 97, 45, 99, 93, 43, 49, 63] : List UInt8)).1)) : D) = .p (eLang lang1), ((langS ([91, 97, 45, 99, 93, 43, 49, 63] : List UInt8)).2) = 0]) (E' := [(1, none, .ref 0 []), (2, none, vint .i64 0)]) (H' := [.box (.p (eLang lang1))]) [(2, .p (eLang lang1)), (3, vint .i64 0)] [(0, .tup [.p (eLang ((langS ([91, 97, 45, 99, 93, 43, 49, 63] : List UInt8)).1)), vint .i64 ((langS ([91, 97, 45, 99, 93, 43, 49, 63] : List UInt8)).2)])] [1, 2] (by kernel_rfl) ?_ ?_
  · refine al ?_ (al ?_ (al ?_ (trivial)))
    · exact Parse_ok _ (by first | omega | (intro hg; simp at hg; omega) | (simp; done) | (simp_all; done) | (simp_all; omega) | grind)
    · exact congrArg (fun x => D.p (eLang x)) (congrArg Prod.fst ex1)
    · exact congrArg Prod.snd ex1
  refine tr_then ?_
  refine tr_seq ?_
  refine tr_seq ?_
  refine tr_r (vc := [((0 : Int) != 0) = false, (!false) = true → (!false) = true, (!false) = true → (Pure Try.prog 16 [eLang lang1, .s ([97, 98, 99, 97, 49] : List UInt8)] (vbool (has lang1 ([97, 98, 99, 97, 49] : List UInt8)))), (!false) = true → (!false) = true, (!false) = true → ((!(has lang1 ([97, 98, 99, 97, 49] : List UInt8))) = false), (!false) = true → (!false) = true, (!(false || false)) = true → (!(false || false)) = true, (!(false || false)) = true → (Pure Try.prog 16 [eLang lang1, .s ([97] : List UInt8)] (vbool (has lang1 ([97] : List UInt8)))), (!(false || false)) = true → (!(false || false)) = true, (!(false || false)) = true → ((!(has lang1 ([97] : List UInt8))) = false), (!(false || false)) = true → (!(false || false)) = true, (!((false || false) || false)) = true → (!((false || false) || false)) = true, (!((false || false) || false)) = true → (Pure Try.prog 16 [eLang lang1, .s ([49] : List UInt8)] (vbool (has lang1 ([49] : List UInt8)))), (!((false || false) || false)) = true → (!((false || false) || false)) = true, (!(((false || false) || false) || (has lang1 ([49] : List UInt8)))) = true → (!(((false || false) || false) || (has lang1 ([49] : List UInt8)))) = true, (!(((false || false) || false) || (has lang1 ([49] : List UInt8)))) = true → (Pure Try.prog 16 [eLang lang1, .s ([97, 49, 49] : List UInt8)] (vbool (has lang1 ([97, 49, 49] : List UInt8)))), (!(((false || false) || false) || (has lang1 ([49] : List UInt8)))) = true → (!(((false || false) || false) || (has lang1 ([49] : List UInt8)))) = true]) (E' := [(1, none, .ref 0 []), (31, none, vbool ((((false || false) || false) || (has lang1 ([49] : List UInt8))) || (has lang1 ([97, 49, 49] : List UInt8))))]) (H' := [.box (.p (eLang lang1))]) [(1, vbool false), (5, vbool false), (10, vbool false)] [(4, vbool (has lang1 ([97, 98, 99, 97, 49] : List UInt8))), (9, vbool (has lang1 ([97] : List UInt8))), (14, vbool (has lang1 ([49] : List UInt8))), (18, vbool (has lang1 ([97, 49, 49] : List UInt8)))] [1, 31] (by kernel_rfl) ?_ ?_
  · refine al ?_ (al ?_ (al ?_ (al ?_ (al ?_ (al ?_ (al ?_ (al ?_ (al ?_ (al ?_ (al ?_ (al ?_ (al ?_ (al ?_ (al ?_ (al ?_ (al ?_ (trivial)))))))))))))))))
    · first | omega | (intro hg; simp at hg; omega) | (simp; done) | (simp_all; done) | (simp_all; omega) | grind
    · exact id
    · intro _; exact has_ok _ _ (by first | omega | (intro hg; simp at hg; omega) | (simp; done) | (simp_all; done) | (simp_all; omega) | grind)
    · exact id
    · intro _; rw [ex3.1]; rfl
    · exact id
    · exact id
    · intro _; exact has_ok _ _ (by first | omega | (intro hg; simp at hg; omega) | (simp; done) | (simp_all; done) | (simp_all; omega) | grind)
    · exact id
    · intro _; rw [ex3.2.1]; rfl
    · exact id
    · exact id
    · intro _; exact has_ok _ _ (by first | omega | (intro hg; simp at hg; omega) | (simp; done) | (simp_all; done) | (simp_all; omega) | grind)
    · exact id
    · exact id
    · intro _; exact has_ok _ _ (by first | omega | (intro hg; simp at hg; omega) | (simp; done) | (simp_all; done) | (simp_all; omega) | grind)
    · exact id
  refine tr_then ?_
  refine tr_condP ((((false || false) || false) || (has lang1 ([49] : List UInt8))) || (has lang1 ([97, 49, 49] : List UInt8))) (((((false = true) ∨ (false = true)) ∨ (false = true)) ∨ ((has lang1 ([49] : List UInt8)) = true)) ∨ ((has lang1 ([97, 49, 49] : List UInt8)) = true)) (by simp) (by kernel_rfl) (fun hc1 => ?_) (fun hc1 => ?_)
  · exact absurd hc1 (by simp [ex3.2.2.1, ex3.2.2.2])
  · skip
    refine tr_skip ?_
    refine tr_then ?_
    refine tr_seq ?_
    refine tr_r (vc := [Pure Try.prog 11 [.s ([120, 42] : List UInt8)] (.tup [.p (eLang ((langS ([120, 42] : List UInt8)).1)), vint .i64 ((langS ([120, 42] : List UInt8)).2)]), (.p (eLang ((langS ([120, 42] : List UInt8)).1)) : D) = .p (eLang lang2), ((langS ([120, 42] : List UInt8)).2) = 0]) (E' := [(1, none, .ref 0 []), (3, none, .ref 1 []), (4, none, vint .i64 0)]) (H' := [.box (.p (eLang lang1)), .box (.p (eLang lang2))]) [(2, .p (eLang lang2)), (3, vint .i64 0)] [(0, .tup [.p (eLang ((langS ([120, 42] : List UInt8)).1)), vint .i64 ((langS ([120, 42] : List UInt8)).2)])] [1, 3, 4] (by kernel_rfl) ?_ ?_
    · refine al ?_ (al ?_ (al ?_ (trivial)))
      · exact Parse_ok _ (by first | omega | (intro hg; simp at hg; omega) | (simp; done) | (simp_all; done) | (simp_all; omega) | grind)
      · exact congrArg (fun x => D.p (eLang x)) (congrArg Prod.fst ex2)
      · exact congrArg Prod.snd ex2
    refine tr_then ?_
    refine tr_seq ?_
    refine tr_r (vc := [Pure Try.prog 14 [eLang lang1, .v (.int .i64 5)] (.p ((eL eS 1 []) (firstS lang1 5))), ∀ j, j < 5 → ([.s ([97] : List UInt8), .s ([98] : List UInt8), .s ([99] : List UInt8), .s ([97, 97] : List UInt8), .s ([97, 98] : List UInt8)] : List PV).getD j default = (fun i => eS (([([97] : List UInt8), ([98] : List UInt8), ([99] : List UInt8), ([97, 97] : List UInt8), ([97, 98] : List UInt8)]).getD i [])) j, Pure Try.prog 23 [(eL eS 1 []) (firstS lang1 5), (eL eS 1 []) ([([97] : List UInt8), ([98] : List UInt8), ([99] : List UInt8), ([97, 97] : List UInt8), ([97, 98] : List UInt8)])] (vbool (decide ((firstS lang1 5) = ([([97] : List UInt8), ([98] : List UInt8), ([99] : List UInt8), ([97, 97] : List UInt8), ([97, 98] : List UInt8)])))), (decide ((firstS lang1 5) = ([([97] : List UInt8), ([98] : List UInt8), ([99] : List UInt8), ([97, 97] : List UInt8), ([97, 98] : List UInt8)]))) = true, true = true → true = true, true = true → (((0 : Int) == 0) = true), true = true → true = true, (true || false) = true → (true || false) = true, (true || false) = true → (Pure Try.prog 14 [eLang lang2, .v (.int .i64 3)] (.p ((eL eS 1 []) (firstS lang2 3)))), (true || false) = true → (∀ j, j < 3 → ([.s ([] : List UInt8), .s ([120] : List UInt8), .s ([120, 120] : List UInt8)] : List PV).getD j default = (fun i => eS (([([] : List UInt8), ([120] : List UInt8), ([120, 120] : List UInt8)]).getD i [])) j), (true || false) = true → (true || false) = true, (true || false) = true → (true || false) = true, (true || false) = true → (Pure Try.prog 23 [(eL eS 1 []) (firstS lang2 3), (eL eS 1 []) ([([] : List UInt8), ([120] : List UInt8), ([120, 120] : List UInt8)])] (vbool (decide ((firstS lang2 3) = ([([] : List UInt8), ([120] : List UInt8), ([120, 120] : List UInt8)]))))), (true || false) = true → (true || false) = true]) (E' := [(5, none, vbool ((true || false) && (decide ((firstS lang2 3) = ([([] : List UInt8), ([120] : List UInt8), ([120, 120] : List UInt8)])))))]) (H' := [.box (.p (eLang lang1)), .box (.p (eLang lang2))]) [(4, vbool true), (6, vbool true)] [(1, .p ((eL eS 1 []) (firstS lang1 5))), (2, .p ((eL eS 1 []) ([([97] : List UInt8), ([98] : List UInt8), ([99] : List UInt8), ([97, 97] : List UInt8), ([97, 98] : List UInt8)]))), (3, vbool (decide ((firstS lang1 5) = ([([97] : List UInt8), ([98] : List UInt8), ([99] : List UInt8), ([97, 97] : List UInt8), ([97, 98] : List UInt8)])))), (10, .p ((eL eS 1 []) (firstS lang2 3))), (11, .p ((eL eS 1 []) ([([] : List UInt8), ([120] : List UInt8), ([120, 120] : List UInt8)]))), (12, vbool (decide ((firstS lang2 3) = ([([] : List UInt8), ([120] : List UInt8), ([120, 120] : List UInt8)]))))] [5] (by kernel_rfl) ?_ ?_
    · refine al ?_ (al ?_ (al ?_ (al ?_ (al ?_ (al ?_ (al ?_ (al ?_ (al ?_ (al ?_ (al ?_ (al ?_ (al ?_ (al ?_ (trivial))))))))))))))
      · exact First_ok _ _
      · exact lit_pv (e := eS) (d := []) (l := [([97] : List UInt8), ([98] : List UInt8), ([99] : List UInt8), ([97, 97] : List UInt8), ([97, 98] : List UInt8)])
      · exact sameTexts_ok _ _ (by rw [ex7]; decide)
      · exact decide_eq_true ex7
      · exact id
      · first | omega | (intro hg; simp at hg; omega) | (simp; done) | (simp_all; done) | (simp_all; omega) | grind
      · exact id
      · exact id
      · intro _; exact First_ok _ _
      · intro _; exact lit_pv (e := eS) (d := []) (l := [([] : List UInt8), ([120] : List UInt8), ([120, 120] : List UInt8)])
      · exact id
      · exact id
      · intro _; exact sameTexts_ok _ _ (by rw [ex8]; decide)
      · exact id
    refine tr_then ?_
    refine tr_seq ?_
    refine tr_r (vc := [Pure Try.prog 29 [.s ([91, 97, 45, 99, 93, 43, 49, 63] : List UInt8)] (vint .i64 (statesS ([91, 97, 45, 99, 93, 43, 49, 63] : List UInt8))), ((statesS ([91, 97, 45, 99, 93, 43, 49, 63] : List UInt8)) == 3) = true, true = true → (Pure Try.prog 29 [.s ([97, 98, 124, 97, 99] : List UInt8)] (vint .i64 (statesS ([97, 98, 124, 97, 99] : List UInt8)))), true = true → true = true, true = true → (((statesS ([97, 98, 124, 97, 99] : List UInt8)) == 4) = true), true = true → true = true, (true || false) = true → (Pure Try.prog 29 [.s ([120, 42] : List UInt8)] (vint .i64 (statesS ([120, 42] : List UInt8)))), (true || false) = true → (true || false) = true, (true || false) = true → (((statesS ([120, 42] : List UInt8)) == 1) = true), (true || false) = true → (true || false) = true, ((true || false) || false) = true → (Pure Try.prog 29 [.s ([91, 45, 97, 93, 98, 42, 124, 99] : List UInt8)] (vint .i64 (statesS ([91, 45, 97, 93, 98, 42, 124, 99] : List UInt8)))), ((true || false) || false) = true → ((true || false) || false) = true, ((true || false) || false) = true → ((decide (0 < (statesS ([91, 45, 97, 93, 98, 42, 124, 99] : List UInt8)))) = true), ((true || false) || false) = true → ((true || false) || false) = true]) (E' := [(5, none, vbool ((true || false) && (decide ((firstS lang2 3) = ([([] : List UInt8), ([120] : List UInt8), ([120, 120] : List UInt8)]))))), (6, none, vbool (((true || false) || false) || false))]) (H' := [.box (.p (eLang lang1)), .box (.p (eLang lang2))]) [(1, vbool true), (4, vbool true), (8, vbool true), (12, vbool true)] [(0, vint .i64 (statesS ([91, 97, 45, 99, 93, 43, 49, 63] : List UInt8))), (3, vint .i64 (statesS ([97, 98, 124, 97, 99] : List UInt8))), (7, vint .i64 (statesS ([120, 42] : List UInt8))), (11, vint .i64 (statesS ([91, 45, 97, 93, 98, 42, 124, 99] : List UInt8)))] [5, 6] (by kernel_rfl) ?_ ?_
    · refine al ?_ (al ?_ (al ?_ (al ?_ (al ?_ (al ?_ (al ?_ (al ?_ (al ?_ (al ?_ (al ?_ (al ?_ (al ?_ (al ?_ (trivial))))))))))))))
      · exact states_ok _ (by first | omega | (intro hg; simp at hg; omega) | (simp; done) | (simp_all; done) | (simp_all; omega) | grind)
      · exact beq_iff_eq.2 ex4
      · intro _; exact states_ok _ (by first | omega | (intro hg; simp at hg; omega) | (simp; done) | (simp_all; done) | (simp_all; omega) | grind)
      · exact id
      · intro _; exact beq_iff_eq.2 ex5.1
      · exact id
      · intro _; exact states_ok _ (by first | omega | (intro hg; simp at hg; omega) | (simp; done) | (simp_all; done) | (simp_all; omega) | grind)
      · exact id
      · intro _; exact beq_iff_eq.2 ex5.2.1
      · exact id
      · intro _; exact states_ok _ (by first | omega | (intro hg; simp at hg; omega) | (simp; done) | (simp_all; done) | (simp_all; omega) | grind)
      · exact id
      · intro _; exact decide_eq_true ex5.2.2
      · exact id
    refine tr_then ?_
    refine tr_seq ?_
    refine tr_r (vc := []) (E' := [(5, none, vbool ((true || false) && (decide ((firstS lang2 3) = ([([] : List UInt8), ([120] : List UInt8), ([120, 120] : List UInt8)]))))), (6, none, vbool (((true || false) || false) || false)), (7, none, vint .i64 (-5))]) (H' := [.box (.p (eLang lang1)), .box (.p (eLang lang2))]) [] [] [5, 6, 7] (by kernel_rfl) ?_ ?_
    · exact trivial
    refine tr_then ?_
    refine tr_seq ?_
    refine tr_r (vc := [((true || false) && (decide ((firstS lang2 3) = ([([] : List UInt8), ([120] : List UInt8), ([120, 120] : List UInt8)])))) = true, true = true → true = true, (true && (((true || false) || false) || false)) = true → (Pure Try.prog 29 [.s ([91, 97, 45, 93] : List UInt8)] (vint .i64 (statesS ([91, 97, 45, 93] : List UInt8)))), (true && (((true || false) || false) || false)) = true → (true && (((true || false) || false) || false)) = true, (true && (((true || false) || false) || false)) = true → (true && (((true || false) || false) || false)) = true, (true && (((true || false) || false) || false)) = true → (((statesS ([91, 97, 45, 93] : List UInt8)) == (-5)) = true), (true && (((true || false) || false) || false)) = true → (true && (((true || false) || false) || false)) = true, ((true && (((true || false) || false) || false)) || false) = true → (Pure Try.prog 29 [.s ([97, 43, 43] : List UInt8)] (vint .i64 (statesS ([97, 43, 43] : List UInt8)))), ((true && (((true || false) || false) || false)) || false) = true → ((true && (((true || false) || false) || false)) || false) = true, ((true && (((true || false) || false) || false)) || false) = true → ((true && (((true || false) || false) || false)) || false) = true, ((true && (((true || false) || false) || false)) || false) = true → (((statesS ([97, 43, 43] : List UInt8)) == (-5)) = true), ((true && (((true || false) || false) || false)) || false) = true → ((true && (((true || false) || false) || false)) || false) = true, (((true && (((true || false) || false) || false)) || false) || false) = true → (Pure Try.prog 29 [.s ([91, 98, 45, 97, 93] : List UInt8)] (vint .i64 (statesS ([91, 98, 45, 97, 93] : List UInt8)))), (((true && (((true || false) || false) || false)) || false) || false) = true → (((true && (((true || false) || false) || false)) || false) || false) = true, (((true && (((true || false) || false) || false)) || false) || false) = true → (((true && (((true || false) || false) || false)) || false) || false) = true, (((true && (((true || false) || false) || false)) || false) || false) = true → (((statesS ([91, 98, 45, 97, 93] : List UInt8)) == (-5)) = true), (((true && (((true || false) || false) || false)) || false) || false) = true → (((true && (((true || false) || false) || false)) || false) || false) = true, ((((true && (((true || false) || false) || false)) || false) || false) || false) = true → (Pure Try.prog 29 [.s ([] : List UInt8)] (vint .i64 (statesS ([] : List UInt8)))), ((((true && (((true || false) || false) || false)) || false) || false) || false) = true → ((((true && (((true || false) || false) || false)) || false) || false) || false) = true, ((((true && (((true || false) || false) || false)) || false) || false) || false) = true → ((((true && (((true || false) || false) || false)) || false) || false) || false) = true, ((((true && (((true || false) || false) || false)) || false) || false) || false) = true → (((statesS ([] : List UInt8)) == (-5)) = true), ((((true && (((true || false) || false) || false)) || false) || false) || false) = true → ((((true && (((true || false) || false) || false)) || false) || false) || false) = true]) (E' := [(0, none, vbool (((((true && (((true || false) || false) || false)) || false) || false) || false) || false))]) (H' := [.box (.p (eLang lang1)), .box (.p (eLang lang2))]) [(0, vbool true), (7, vbool true), (12, vbool true), (17, vbool true), (22, vbool true)] [(5, vint .i64 (statesS ([91, 97, 45, 93] : List UInt8))), (10, vint .i64 (statesS ([97, 43, 43] : List UInt8))), (15, vint .i64 (statesS ([91, 98, 45, 97, 93] : List UInt8))), (20, vint .i64 (statesS ([] : List UInt8)))] [0] (by kernel_rfl) ?_ ?_
    · refine al ?_ (al ?_ (al ?_ (al ?_ (al ?_ (al ?_ (al ?_ (al ?_ (al ?_ (al ?_ (al ?_ (al ?_ (al ?_ (al ?_ (al ?_ (al ?_ (al ?_ (al ?_ (al ?_ (al ?_ (al ?_ (al ?_ (trivial))))))))))))))))))))))
      · rw [decide_eq_true ex8]; rfl
      · exact id
      · intro _; exact states_ok _ (by first | omega | (intro hg; simp at hg; omega) | (simp; done) | (simp_all; done) | (simp_all; omega) | grind)
      · exact id
      · exact id
      · intro _; exact beq_iff_eq.2 ex6.1
      · exact id
      · intro _; exact states_ok _ (by first | omega | (intro hg; simp at hg; omega) | (simp; done) | (simp_all; done) | (simp_all; omega) | grind)
      · exact id
      · exact id
      · intro _; exact beq_iff_eq.2 ex6.2.1
      · exact id
      · intro _; exact states_ok _ (by first | omega | (intro hg; simp at hg; omega) | (simp; done) | (simp_all; done) | (simp_all; omega) | grind)
      · exact id
      · exact id
      · intro _; exact beq_iff_eq.2 ex6.2.2.1
      · exact id
      · intro _; exact states_ok _ (by first | omega | (intro hg; simp at hg; omega) | (simp; done) | (simp_all; done) | (simp_all; omega) | grind)
      · exact id
      · exact id
      · intro _; exact beq_iff_eq.2 ex6.2.2.2
      · exact id
    refine tr_then ?_
    refine tr_pre (E' := [(0, none, vbool (((((true && (((true || false) || false) || false)) || false) || false) || false) || false))]) (H' := []) (fun A_ W_ hS => sl_weak (vc := []) [] [0] (by kernel_rfl) trivial hS) ?_
    refine tr_pre (E' := (0, none, vbool true) :: [(0, none, vbool (((((true && (((true || false) || false) || false)) || false) || false) || false) || false))]) (H' := []) (fun A_ W_ hS => sl_set_imp (d := vbool (((((true && (((true || false) || false) || false)) || false) || false) || false) || false)) 0 (vbool true) (by kernel_rfl) ?_ hS) ?_
    · refine imp_eq (congrArg (fun x => D.p (eB x)) (a₁ := (((((true && (((true || false) || false) || false)) || false) || false) || false) || false)) (a₂ := true) ?_)
      first | rfl | (simp; done) | omega | (simp_all; done) | grind
    refine tr_pre (E' := [(0, none, vbool true)]) (H' := []) (fun A_ W_ hS => sl_proj (ts := [0]) (by kernel_rfl) hS) ?_
    exact tr_return' (vc := []) (ds := [vbool true]) (by kernel_rfl) trivial (by kernel_rfl) (fun _ _ h => h)
end Go.Proofs.Ytjnjmnfacaakfaa
namespace Go.Proofs.Ytjnjmnfacaakfaa
open Go.Eng
theorem firstS_len {l : Lang} {m : Int} (h : 0 ≤ m) : ((firstS l m).length : Int) ≤ min m 100 := by
  unfold firstS
  split
  · simp; omega
  · simp only [List.length_take]; omega
theorem firstS_mem {l : Lang} {m : Int} {w : List UInt8} (h : w ∈ firstS l m) : w.length ≤ 12 ∧ has l w = true := by
  unfold firstS at h
  split at h
  · cases h
  · rename_i h0
    rw [not_or, Classical.not_not] at h0
    exact (mem_allW h0.1).1 (List.mem_of_mem_take h)
theorem patS_len (l : List Int) : (patS l).length ≤ 56 := by
  have hv := nextV_lt ({ L := l, At := 0 } : Draw) (n := 2) (by omega)
  have := (branches_ok l (1 + nextV { L := l, At := 0 } 2).toNat).2
  unfold patS
  omega
theorem word_len (l : List Int) : (word l).length ≤ 8 := by unfold word; simp; omega
end Go.Proofs.Ytjnjmnfacaakfaa
namespace Go.Eng
theorem app_of {α : Type} {e : α → PV} {d : α} {f : Nat → D} {n : Nat} {xs ys : List α} (hn : n = xs.length) (h : ∀ j, j < n → f j = .p (e (xs.getD j d))) : ∀ j, j < n + ys.length → appF f n (fun j => .p (e (ys.getD j d))) j = .p (e ((xs ++ ys).getD j d)) := by
  subst hn
  intro j hj
  rw [← appN (xs := xs) (ys := ys) j hj]
  unfold appF
  split
  · rename_i hlt
    exact h j hlt
  · rfl
end Go.Eng
