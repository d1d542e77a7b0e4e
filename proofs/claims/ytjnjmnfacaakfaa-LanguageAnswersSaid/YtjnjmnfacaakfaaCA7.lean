/-
  LanguageAnswers: whatever the input, the call returns true, and each argument reads afterwards as it read before. No conditions. (Part 7 of 8 of its proof.)
-/
import Derived.Test.YtjnjmnfacaakfaaCA6
import Derived.Test.YtjnjmnfacaakfaaRows
namespace Go.Eng
open Go.RowKit
theorem putH_at : ∀ {H : List O} {n : Nat} {o : O}, n ≤ H.length → (putH H n o)[n]? = some o
 | [], 0, _, _ => rfl
 | [], n + 1, _, h => by simp at h
 | _ :: _, 0, _, _ => rfl
 | _ :: l, n + 1, o, h => by
  simp only [putH, List.getElem?_cons_succ]
  exact putH_at (by simpa using h)
theorem putH_ne : ∀ {H : List O} {n j : Nat} {o x : O}, j ≠ n → H[j]? = some x → (putH H n o)[j]? = some x
 | [], _, _, _, _, _, h => by simp at h
 | _ :: _, 0, 0, _, _, h, _ => absurd rfl h
 | _ :: _, 0, j + 1, _, _, _, h => by simpa [putH] using h
 | _ :: _, n + 1, 0, _, _, _, h => by simpa [putH] using h
 | _ :: l, n + 1, j + 1, o, x, hne, h => by
  simp only [putH, List.getElem?_cons_succ] at h ⊢
  exact putH_ne (by omega) h
section
variable {P : Program} {N : Nat} {F : PHeap} {w0 w w1 : World} {T e n m : Nat} {g : Nat → Value} {rb : Nat → Nat} {len : Nat → Nat} {f : Nat → Nat → Value} {ov : Value}
def gridH (T e n : Nat) (g : Nat → Value) (len : Nat → Nat) (f : Nat → Nat → Value) : List O := .arr T 1 n (fun j => .p (.v (g j))) :: (List.range (n + 1)).map fun k => rowO e (len k) (f k)
def gridγ (n : Nat) (g : Nat → Value) (ov : Value) : Gm := fun i => match i with
 | 0 => some ov
 | k + 1 => if k < n + 1 then some (g k) else none
theorem gridH_get {i : Nat} {o : O} (h : (gridH T e n g len f)[i]? = some o) : (i = 0 ∧ o = .arr T 1 n (fun j => .p (.v (g j)))) ∨ ∃ k, i = k + 1 ∧ k < n + 1 ∧ o = rowO e (len k) (f k) := by
 unfold gridH at h
 cases i with
 | zero => exact .inl ⟨rfl, (Option.some.inj h).symm⟩
 | succ k =>
  right
  rw [List.getElem?_cons_succ, List.getElem?_map] at h
  by_cases hk : k < n + 1
  ·rw [List.getElem?_range hk] at h
   exact ⟨k, rfl, hk, (Option.some.inj h).symm⟩
  ·rw [List.getElem?_eq_none (by simpa using hk)] at h
   cases h
theorem gridH_len : (gridH T e n g len f).length = n + 2 := by simp [gridH]
theorem Rows.push (h : Rows F e n g rb len f w) {gk : Value} {rk : Nat} (hg : Keep w w1) (hrow : RelO noF noG w1 (rowO e (len n) (f n)) gk) (hb : Go.Eng.blk gk = some rk) (hnew : w.heap.size ≤ rk) (hF : F rk = none) : Rows F e (n + 1) (upd g n gk) (upd rb n rk) len f w1 where
 row := fun k hk => by
  unfold upd
  by_cases hkn : k = n
  ·subst hkn; rw [if_pos rfl]; exact hrow
  ·rw [if_neg hkn]
   have hk' : k < n := by omega
   refine (h.row k hk').same fun b hb' => ?_
   rw [h.blk k hk'] at hb'
   cases hb'
   obtain ⟨c, cap, _, h2, _⟩ := h.cells hk'
   rw [h2, hg _ _ h2]
 blk := fun k hk => by
  unfold upd
  by_cases hkn : k = n
  ·subst hkn; rw [if_pos rfl, if_pos rfl]; exact hb
  ·rw [if_neg hkn, if_neg hkn]; exact h.blk k (by omega)
 inj := fun i j hi hj => by
  have lt : ∀ k, k < n → rb k < w.heap.size := fun k hk => by
   obtain ⟨c, cap, _, h2, _⟩ := h.cells hk
   exact (Array.getElem?_eq_some_iff.1 h2).1
  unfold upd
  by_cases hin : i = n
  ·by_cases hjn : j = n
   ·intro _; omega
   ·rw [if_pos hin, if_neg hjn]; intro he; have := lt j (by omega); omega
  ·by_cases hjn : j = n
   ·rw [if_neg hin, if_pos hjn]; intro he; have := lt i (by omega); omega
   ·rw [if_neg hin, if_neg hjn]; exact h.inj i j (by omega) (by omega)
 out := fun k hk => by
  unfold upd
  by_cases hkn : k = n
  ·rw [if_pos hkn]; exact hF
  ·rw [if_neg hkn]; exact h.out k (by omega)
theorem grid_slh {F' : PHeap} {g' : Nat → Value} {rb' : Nat → Nat} (hR : Rows F' e (n + 1) g' rb' len f w1) (hgr : Grew w0 w1) (hs : Sub F' w1) (hnew : ∀ k, k < n + 1 → w0.heap.size ≤ rb' k) (hO : RelO noF noG w1 (.arr T 1 n (fun j => .p (.v (g' j)))) ov)
  (hap : ∀ b, Go.Eng.blk ov = some b → w0.heap.size ≤ b ∧ b < w1.heap.size ∧ F' b = none ∧ ∀ k, k < n + 1 → rb' k ≠ b) : SLH ⟨P, w0, F', [], N⟩ F' (gridγ n g' ov) (gridH T e n g' len f) w1 where
 sub := hs
 ext := fun _ _ => rfl
 top := fun i hi => by
  rw [gridH_len] at hi
  obtain ⟨k, rfl⟩ : ∃ k, i = k + 1 := ⟨i - 1, by omega⟩
  show (if k < n + 1 then some (g' k) else none) = none
  rw [if_neg (by omega)]
 free := fun i hi => by
  rcases gridH_get hi with ⟨_, h⟩ | ⟨k, _, _, h⟩ <;> cases h
 obj := fun i o v ho hv => by
  rcases gridH_get ho with ⟨rfl, rfl⟩ | ⟨k, rfl, hk, rfl⟩
  ·cases hv
   exact hO.mono (fun _ _ h => by cases h) (fun _ _ h => by cases h)
  ·have hv : (if k < n + 1 then some (g' k) else none) = some v := hv
   rw [if_pos hk] at hv
   cases hv
   exact (hR.row k hk).mono (fun _ _ h => by cases h) (fun _ _ h => by cases h)
 apart := fun i o v b ho _ hv hb => by
  rcases gridH_get ho with ⟨rfl, rfl⟩ | ⟨k, rfl, hk, rfl⟩
  ·cases hv
   obtain ⟨a1, a2, a3, _⟩ := hap b hb
   exact ⟨a3, a2, fun _ => a1⟩
  ·have hv : (if k < n + 1 then some (g' k) else none) = some v := hv
   rw [if_pos hk] at hv
   cases hv
   rw [hR.blk k hk] at hb
   cases hb
   obtain ⟨c, cap, _, h2, _⟩ := hR.cells hk
   exact ⟨hR.out k hk, (Array.getElem?_eq_some_iff.1 h2).1, fun _ => hnew k hk⟩
 given := fun i hi => by simp at hi
 dis := fun i j o o' v v' b h1 h2 hij _ _ hv hv' hb => by
  rcases gridH_get h1 with ⟨rfl, rfl⟩ | ⟨k, rfl, hk, rfl⟩
  ·cases hv
   rcases gridH_get h2 with ⟨rfl, rfl⟩ | ⟨k', rfl, hk', rfl⟩
   ·exact absurd rfl hij
   ·have hv' : (if k' < n + 1 then some (g' k') else none) = some v' := hv'
    rw [if_pos hk'] at hv'
    cases hv'
    rw [hR.blk k' hk']
    exact fun h => (hap b hb).2.2.2 k' hk' (Option.some.inj h)
  ·have hv : (if k < n + 1 then some (g' k) else none) = some v := hv
   rw [if_pos hk] at hv
   cases hv
   rw [hR.blk k hk] at hb
   cases hb
   rcases gridH_get h2 with ⟨rfl, rfl⟩ | ⟨k', rfl, hk', rfl⟩
   ·cases hv'
    exact fun h => (hap _ h).2.2.2 k hk rfl
   ·have hv' : (if k' < n + 1 then some (g' k') else none) = some v' := hv'
    rw [if_pos hk'] at hv'
    cases hv'
    rw [hR.blk k' hk']
    exact fun h => hij (by rw [hR.inj k k' hk hk' (Option.some.inj h).symm])
 os := hgr.os
 tape := hgr.tape
 output := hgr.output
 grows := hgr.size
 block := fun k hk _ => hgr.block k hk
theorem keep_grew (h : Grew w w1) : Keep w w1 := fun b o hb => by rw [h.block b (Array.getElem?_eq_some_iff.1 hb).1]; exact hb
theorem tqg_push {E E1 E3 : Env} {G : World → Prop} {Q : Exit → Act → World → Prop} {l : List Oper} {id : Nat} {vc1 vcX} {o : Oper} {fr : Nat → D} {fl : Nat → D} (n1 tO tX tA tS : Nat) (hs : List (Nat × D)) (us ks : List Nat)
  (h1 : (run P 0 N l.toArray hs 0 (l.take n1) E []).bind (fun q => (proj q.2.1 us).map fun x => (q.1, x, q.2.2)) = some (vc1, E1, [.arr e 1 m fr, .arr T 1 1 fl])) (hvc1 : all vc1)
  (hO : E1.get tO = some (none, .p (.v ov))) (hX : E1.get tX = some (none, .own 1)) (hfl : fl 0 = .own 0) (hm : m = len n) (hm0 : 0 < m) (hfr : ∀ i, i < m → fr i = .p (.v (f n i)))
  (hn : l[n1]? = some o) (hgd : o.guard = none) (hd : o.dst = some tA) (hdk : dstOk N (some tA) = true) (hop : ∀ x ∈ o.op.operands, x = .tmp tO ∨ x = .tmp tX)
  (hev : ∀ (g : Nat → Value) (tl : List O) (tg : Nat) (gk : Value), evX P 0 (.arr T 1 n (fun j => .p (.v (g j))) :: tl) tg (evE [(tO, none, .own 0), (tX, none, .p (.lst 1 1 (fun _ => .v gk)))]) o.op = some (vcX, some (.own tg), [(0, .dead), (tg, .arr T 1 (n + 1) (appF (fun j => .p (.v (g j))) n (fun _ => .p (.v gk))))])) (hvcX : all vcX)
  (hsuf : ∀ v : Value, ((runQ P N l.toArray [] [] (n1 + 1) (l.drop (n1 + 1)) [(tA, none, .p (.v v))]).bind fun q => (proj q.2 [tS]).map fun x => (q.1, x)) = some ([], [(tS, none, .p (.v v))]))
  (hkp : keepsB l ks = true) (hp : proj E ks = some E3) (hG : ∀ w, G w → NewGrid F w0 w ov T e n g rb len f)
  (hk : ∀ (v gk : Value) (rk : Nat) a w, QS N F ((tS, none, .p (.v v)) :: E3) (fun w => NewGrid F w0 w v T e (n + 1) (upd g n gk) (upd rb n rk) len f) a w → Q .normal a w) : TrQ P N F (.region id l.toArray false) E G Q := by
 intro a w hS
 have hNG := hG w hS.g
 cases hr1 : run P 0 N l.toArray hs 0 (l.take n1) E [] with
 | none => rw [hr1] at h1; cases h1
 | some q1 =>
 obtain ⟨va, Ea, Ha⟩ := q1
 rw [hr1] at h1
 simp only [Option.bind_some, Option.map_eq_some_iff, Prod.mk.injEq] at h1
 obtain ⟨E1', hpj, rfl, rfl, rfl⟩ := h1
 refine wp_region_lit ?_
 have hkp2 : keepsB (l.take n1) ks = true ∧ keepsB (l.drop n1) ks = true := by
  have : keepsB (l.take n1 ++ l.drop n1) ks = true := by rw [List.take_append_drop]; exact hkp
  unfold keepsB at this ⊢
  rw [List.all_append, Bool.and_eq_true] at this
  exact this
 have hdr : l.drop n1 = o :: l.drop (n1 + 1) := by
  obtain ⟨hlt, hget⟩ := List.getElem?_eq_some_iff.1 hn
  rw [List.drop_eq_getElem_cons hlt, hget]
 have hSL : SL ⟨P, w, F, [], N⟩ E [] a w := ⟨⟨F, _, qs_slh hS.s, hS.e⟩, hS.n, hS.d⟩
 have key : wpList P l.toArray Q (l.take n1 ++ l.drop n1) a w := by
  refine run_keep (C := ⟨P, w, F, [], N⟩) (ks := ks) hSL hr1 hvc1 hkp2.1 fun a1 w1 hS1 hk1 => ?_
  obtain ⟨⟨F1, γ1, s1, s2⟩, s3, s4⟩ := hS1
  have s2' : SLE F1 γ1 E1' a1 := sle_proj hpj s2
  have hgw : Grew w w1 := ⟨s1.os, s1.tape, s1.output, s1.grows, fun b hb => s1.block b hb fun v hv => by simp at hv⟩
  -- the slots
  obtain ⟨vO, o1, o2⟩ := (s2' _ _ _ hO).1 trivial
  have hvO := v_val o2
  rw [hvO] at o1 o2
  obtain ⟨vX, x1, x2⟩ := (s2' _ _ _ hX).1 trivial
  have hγ1 : γ1 1 = some vX := by
   cases x2 with
   | many hmm => cases hmm
   | one _ x2 => cases x2 with | own h _ => exact h
  -- the literal: one element, the row
  have hlit := s1.obj 1 _ vX rfl hγ1
  obtain ⟨bl, cl_, capl, l1, l2, l3, l4, l5, l6⟩ : ∃ bl c cap, vX = .slice (some ⟨bl, 0, none⟩) 1 cap ∧ w1.heap[bl]? = some (.cells c T (0, 0)) ∧ 1 ≤ cap ∧ cap ≤ maxLen ∧ c.size = cap * 1 ∧ RelD F1 γ1 (fl 0) ((c.toList.drop (0 * 1)).take 1) := by
   cases hlit with
   | arr a1 a2 a3 a4 a5 => exact ⟨_, _, _, rfl, a1, a2, a3, a4, a5 0 (by omega)⟩
  rw [hfl] at l6
  obtain ⟨gk, hgk, hcell⟩ : ∃ gk, γ1 0 = some gk ∧ (cl_.toList.drop (0 * 1)).take 1 = [gk] := by
   generalize (cl_.toList.drop (0 * 1)).take 1 = cs at l6
   cases l6 with
   | own h _ => exact ⟨_, h, rfl⟩
  have hrow0 := s1.obj 0 _ gk rfl hgk
  have hrowS : RelO noF noG w1 (rowO e m (f n)) gk := relO_scal hrow0 hfr
  obtain ⟨rk, hrk⟩ : ∃ rk, blk gk = some rk := by
   cases hrowS with
   | arr0 => omega
   | arr => exact ⟨_, rfl⟩
  obtain ⟨ap1, ap2, ap3⟩ := s1.apart 0 _ gk rk rfl rfl hgk hrk
  have hnewk : w.heap.size ≤ rk := ap3 (Nat.le_refl _)
  obtain ⟨bp1, bp2, bp3⟩ := s1.apart 1 _ vX bl rfl rfl hγ1 (by rw [l1]; rfl)
  have hnewl : w.heap.size ≤ bl := bp3 (Nat.zero_le _)
  have hlr : bl ≠ rk := fun h => s1.dis 0 1 _ _ gk vX rk rfl rfl (by omega) rfl rfl hgk hγ1 hrk (by rw [l1]; show some bl = some rk; rw [h])
  have hFge : ∀ b, w.heap.size ≤ b → F b = none := fun b hb => by
   cases hf : F b with
   | none => rfl
   | some c =>
    obtain ⟨T', fz, h⟩ := hNG.sub b c hf
    have := (Array.getElem?_eq_some_iff.1 h).1
    omega
  have hkeep := keep_grew hgw
  subst hm
  have hR1 : Rows F e (n + 1) (upd g n gk) (upd rb n rk) len f w1 := hNG.rows.push hkeep hrowS hrk hnewk (hFge _ hnewk)
  -- with the literal at rest
  let FB : PHeap := fun b => if b = bl then some cl_ else F b
  have hFB : ∀ b c, F b = some c → FB b = some c := fun b c hb => by
   show (if b = bl then some cl_ else F b) = some c
   rw [if_neg]
   ·exact hb
   ·intro h
    rw [h, hFge bl hnewl] at hb
    cases hb
  have hsubB : Sub FB w1 := fun b c hb => by
   have hb : (if b = bl then some cl_ else F b) = some c := hb
   by_cases h : b = bl
   ·subst h
    rw [if_pos rfl] at hb
    cases hb
    exact ⟨_, _, l2⟩
   ·rw [if_neg h] at hb
    obtain ⟨T', fz, h'⟩ := hNG.sub b c hb
    exact ⟨T', fz, hkeep _ _ h'⟩
  have lt : ∀ k, k < n → rb k < w.heap.size := fun k hk => by
   obtain ⟨c, cap, _, h2, _⟩ := hNG.rows.cells hk
   exact (Array.getElem?_eq_some_iff.1 h2).1
  have hRB : Rows FB e (n + 1) (upd g n gk) (upd rb n rk) len f w1 := ⟨hR1.row, hR1.blk, hR1.inj, fun k hk => by
   show (if upd rb n rk k = bl then some cl_ else F (upd rb n rk k)) = none
   rw [if_neg, hR1.out k hk]
   unfold upd
   by_cases hkn : k = n
   ·rw [if_pos hkn]; exact fun h => hlr h.symm
   ·rw [if_neg hkn]; have := lt k (by omega); omega⟩
  have hOw1 : RelO noF noG w1 (.arr T 1 n (fun j => .p (.v (upd g n gk j)))) ov := by
   have h := hNG.outer.same (w' := w1) fun b hb => by
    have hbw : ∃ o, w.heap[b]? = some o := by
     have hh := hNG.outer
     generalize ov = ov' at hh hb
     cases hh with
     | arr0 => cases hb
     | arr a1 => cases hb; exact ⟨_, a1⟩
    obtain ⟨oo, hoo⟩ := hbw
    rw [hoo]; exact hkeep _ _ hoo
   exact relO_scal h fun i hi => by unfold upd; rw [if_neg (by omega)]
  have hobw : ∀ b, blk ov = some b → b < w.heap.size := fun b hb => by
   have hh := hNG.outer
   generalize ov = ov' at hh hb
   cases hh with
   | arr0 => cases hb
   | arr a1 => cases hb; exact (Array.getElem?_eq_some_iff.1 a1).1
  have hgr1 : Grew w0 w1 := hNG.grew.trans hgw
  have hSB : SLH ⟨P, w0, FB, [], N⟩ FB (gridγ n (upd g n gk) ov) (gridH T e n (upd g n gk) len f) w1 := grid_slh hRB hgr1 hsubB (fun k hk => by
    unfold upd
    by_cases hkn : k = n
    ·rw [if_pos hkn]; exact Nat.le_trans hNG.grew.size hnewk
    ·rw [if_neg hkn]; exact hNG.new k (by omega)) hOw1 fun b hb => by
   have h1 := hobw b hb
   obtain ⟨h2, h3, h4⟩ := hNG.apart b hb
   refine ⟨h2, Nat.lt_of_lt_of_le h1 hgw.size, ?_, fun k hk => ?_⟩
   ·show (if b = bl then some cl_ else F b) = none
    rw [if_neg (by omega), h3]
   ·unfold upd
    by_cases hkn : k = n
    ·rw [if_pos hkn]; omega
    ·rw [if_neg hkn]; exact h4 k (by omega)
  -- the append
  have hevB : ∀ x ∈ o.op.operands, ∀ d, evE [(tO, none, .own 0), (tX, none, .p (.lst 1 1 (fun _ => .v gk)))] x = some d → RelV FB (gridγ n (upd g n gk) ov) d (a1.eval x) := by
   have hE : SLE FB (gridγ n (upd g n gk) ov) [(tO, none, .own 0), (tX, none, .p (.lst 1 1 (fun _ => .v gk)))] a1 := by
    have hone : ov.oneCell' = true := by
     cases o2 with
     | many hmm => cases hmm
     | one _ o2 => cases o2 with | p o2 => cases o2 with | v h => exact h
    refine sle_cons o1 (.one rfl (.own rfl hone)) (sle_cons x1 ?_ fun _ _ _ h => by cases h)
    rw [l1]
    refine .one rfl (.p (.lst (c := cl_) (by show (if bl = bl then some cl_ else F bl) = some cl_; rw [if_pos rfl]) l3 (by omega) fun i hi => ?_))
    obtain rfl : i = 0 := by omega
    rw [Nat.zero_add, hcell]
    have h1k : gk.oneCell' = true := by
     obtain ⟨_, _, e1, _⟩ := relO_cells hrowS hrk
     rw [e1]; rfl
    exact .v h1k
   intro x hx d hd
   rcases hop x hx with rfl | rfl
   ·simp only [evE] at hd
    split at hd
    ·rename_i g0 d0 hg
     cases hd
     have hg' : g0 = none := by
      simp only [Env.get] at hg
      cases hb : Nat.beq tO tO with
      | true => rw [hb] at hg; simp only [cond_true, Option.some.injEq, Prod.mk.injEq] at hg; exact hg.1.symm
      | false => simp at hb
     subst hg'
     obtain ⟨v, v1, v2⟩ := (hE _ _ _ hg).1 trivial
     rw [eval_tmp v1]; exact v2
    ·cases hd
   ·simp only [evE] at hd
    split at hd
    ·rename_i g0 d0 hg
     cases hd
     have hg' : g0 = none := by
      simp only [Env.get] at hg
      cases hb : Nat.beq tO tX with
      | true => rw [hb] at hg; simp only [cond_true, Option.some.injEq, Prod.mk.injEq] at hg; exact hg.1.symm
      | false =>
       rw [hb] at hg
       cases hb2 : Nat.beq tX tX with
       | true => rw [hb2] at hg; simp only [cond_false, cond_true, Option.some.injEq, Prod.mk.injEq] at hg; exact hg.1.symm
       | false => simp at hb2
     subst hg'
     obtain ⟨v, v1, v2⟩ := (hE _ _ _ hg).1 trivial
     rw [eval_tmp v1]; exact v2
    ·cases hd
  have hfree : isFree (gridH T e n (upd g n gk) len f) (n + 2) = true := by
   have := free_end (gridH T e n (upd g n gk) len f)
   rw [gridH_len] at this
   exact this
  have hev' := hev (upd g n gk) ((List.range (n + 1)).map fun k => rowO e (len k) (f k)) (n + 2) gk
  obtain ⟨F', γ', w2, r, r1, r2, r3, r4, v, rfl, r5⟩ := evX_sound (C := ⟨P, w0, FB, [], N⟩) (ρ := a1.eval) (o := o) hSB hfree hevB hev' hvcX
  have hγv : γ' (n + 2) = some v := by
   cases r5 with
   | many hmm => cases hmm
   | one _ r5 => cases r5 with | own h _ => exact h
  have hone : v.oneCell' = true := by
   cases r5 with
   | many hmm => cases hmm
   | one _ r5 => cases r5 with | own _ h => exact h
  have hlen1 : (putH (gridH T e n (upd g n gk) len f) 0 .dead).length = n + 2 := by
   rw [putH_set (by rw [gridH_len]; omega), List.length_set, gridH_len]
  have hrowget : ∀ k, k < n + 1 → (applyU (gridH T e n (upd g n gk) len f) [(0, .dead), (n + 2, .arr T 1 (n + 1) (appF (fun j => .p (.v (upd g n gk j))) n (fun _ => .p (.v gk))))])[k + 1]? = some (rowO e (len k) (f k)) := fun k hk => by
   show (putH (putH (gridH T e n (upd g n gk) len f) 0 .dead) (n + 2) _)[k + 1]? = _
   refine putH_ne (by omega) (putH_ne (by omega) ?_)
   show ((List.range (n + 1)).map fun k => rowO e (len k) (f k))[k]? = _
   rw [List.getElem?_map, List.getElem?_range hk]; rfl
  have houtget : (applyU (gridH T e n (upd g n gk) len f) [(0, .dead), (n + 2, .arr T 1 (n + 1) (appF (fun j => .p (.v (upd g n gk j))) n (fun _ => .p (.v gk))))])[n + 2]? = some (.arr T 1 (n + 1) (appF (fun j => .p (.v (upd g n gk j))) n (fun _ => .p (.v gk)))) :=
   putH_at (by rw [hlen1]; exact Nat.le_refl _)
  have hγr : ∀ k, k < n + 1 → γ' (k + 1) = some (upd g n gk k) := fun k hk => r4 (k + 1) _ (by show (if k < n + 1 then some (upd g n gk k) else none) = _; rw [if_pos hk])
  have hFF' : ∀ b c, F b = some c → F' b = some c := fun b c h => r3 b c (hFB b c h)
  have hN2 : NewGrid F w0 w2 v T e (n + 1) (upd g n gk) (upd rb n rk) len f := {
   grew := ⟨r2.os, r2.tape, r2.output, r2.grows, fun b hb => r2.block b hb fun x hx => by simp at hx⟩
   sub := fun b c hb => r2.sub b c (hFF' b c hb)
   rows := ⟨fun k hk => relO_scal (r2.obj (k + 1) _ _ (hrowget k hk) (hγr k hk)) fun _ _ => rfl, hR1.blk, hR1.inj, hR1.out⟩
   new := fun k hk => by
    unfold upd
    by_cases hkn : k = n
    ·rw [if_pos hkn]; exact Nat.le_trans hNG.grew.size hnewk
    ·rw [if_neg hkn]; exact hNG.new k (by omega)
   outer := relO_scal (r2.obj (n + 2) _ v houtget hγv) fun j hj => by
    unfold appF
    by_cases hjn : j < n
    ·rw [if_pos hjn]
    ·obtain rfl : j = n := by omega
     rw [if_neg hjn]
     unfold upd
     rw [if_pos rfl]
   apart := fun b hb => by
    obtain ⟨a1', a2', a3'⟩ := r2.apart (n + 2) _ v b houtget rfl hγv hb
    refine ⟨a3' (Nat.zero_le _), ?_, fun k hk he => ?_⟩
    ·cases hf : F b with
     | none => rfl
     | some c => rw [hFF' b c hf] at a1'; cases a1'
    ·exact r2.dis (n + 2) (k + 1) _ _ v _ b houtget (hrowget k hk) (by omega) rfl rfl hγv (hγr k hk) hb (by rw [hR1.blk k hk, he]) }
  rw [hdr]
  have hw : Region.wanted o (yielded l.toArray a1.tmps) = true := by simp [Region.wanted, hgd]
  unfold wpList
  rw [if_pos hw]
  refine .inl ?_
  unfold Oper.wp
  rw [r1]
  show wpList P l.toArray Q (l.drop (n1 + 1)) (a1.put o.dst v) w2
  have hkp3 := hkp2.2
  rw [hdr] at hkp3
  obtain ⟨hkp4, hput⟩ := keeps_put hkp3
  cases hq : runQ P N l.toArray [] [] (n1 + 1) (l.drop (n1 + 1)) [(tA, none, .p (.v v))] with
  | none => have := hsuf v; rw [hq] at this; cases this
  | some q =>
  obtain ⟨vq, Eq⟩ := q
  have hs2 := hsuf v
  rw [hq] at hs2
  simp only [Option.bind_some, Option.map_eq_some_iff, Prod.mk.injEq] at hs2
  obtain ⟨Ex, hpx, rfl, rfl⟩ := hs2
  have hEA : SLE F noG [(tA, none, .p (.v v))] (a1.put o.dst v) := by
   rw [hd]
   exact sle_put (dst := some tA) (e := none) (E := []) (fun _ _ _ h => by cases h) s3 hdk (fun _ => .one rfl (.p (.v hone))) (fun h => absurd trivial h)
  have := runQ_keep (P := P) (ks := ks) (rest := []) (Q := Q) (qs_slh (P := P) (N := N) hN2.sub) hEA (by rw [put_size]; exact s3) hq trivial hkp4 fun a3 k1 k2 k3 k4 => (show Q .normal a3 w2 from
   hk v gk rk a3 w2 ⟨sle_app (sle_proj hpx k1) (sle_kept hp (fun t ht => (k4 t ht).trans ((hput a1 v t ht).trans (hk1 t ht))) hS.e), k2, (k3.trans put_defers).trans s4, hN2.sub, hN2⟩)
  rw [List.append_nil] at this
  exact this
 rw [List.take_append_drop] at key
 exact key
end
end Go.Eng
namespace Go.Eng
open Go.RowKit
section
variable {C : Cx} {E E1 E2 E3 : Env} {H : List O} {Q : Exit → Act → World → Prop}
theorem tr_open {c : Code} (h : ∀ a w F γ, SLH C F γ H w → SLE F γ E a → a.tmps.size = C.N → a.defers = [] → c.wp C.P Q a w) : Tr C c E H Q := fun a w hS =>
 let ⟨⟨F, γ, h1, h2⟩, h3, h4⟩ := hS
 h a w F γ h1 h2 h3 h4
def lentE (i : Nat) (p : PV) (E : Env) : List Nat → Option Env
 | [] => some []
 | t :: l => match E.get t, lentE i p E l with
  | some (none, .own j), some r => if j = i then some ((t, none, .p p) :: r) else none
  | some (none, .p x), some r => some ((t, none, .p x) :: r)
  | _, _ => none
theorem lentE_get {i : Nat} {p : PV} : ∀ {l : List Nat} {E E' : Env} {t : Nat} {g d}, lentE i p E l = some E' → E'.get t = some (g, d) → g = none ∧ ((E.get t = some (none, .own i) ∧ d = .p p) ∨ ∃ x, E.get t = some (none, .p x) ∧ d = .p x)
 | [], E, E', t, g, d, h, hg => by
  simp only [lentE, Option.some.injEq] at h
  subst h; cases hg
 | u :: l, E, E', t, g, d, h, hg => by
  simp only [lentE] at h
  split at h
  ·rename_i j r h1 h2
   split at h
   ·rename_i hj
    subst hj
    simp only [Option.some.injEq] at h
    subst h
    simp only [Env.get] at hg
    cases hb : Nat.beq u t with
    | true =>
     rw [hb] at hg
     simp only [cond_true, Option.some.injEq, Prod.mk.injEq] at hg
     obtain ⟨rfl, rfl⟩ := hg
     rw [← Nat.eq_of_beq_eq_true hb]
     exact ⟨rfl, .inl ⟨h1, rfl⟩⟩
    | false => rw [hb] at hg; exact lentE_get h2 hg
   ·cases h
  ·rename_i x r h1 h2
   simp only [Option.some.injEq] at h
   subst h
   simp only [Env.get] at hg
   cases hb : Nat.beq u t with
   | true =>
    rw [hb] at hg
    simp only [cond_true, Option.some.injEq, Prod.mk.injEq] at hg
    obtain ⟨rfl, rfl⟩ := hg
    rw [← Nat.eq_of_beq_eq_true hb]
    exact ⟨rfl, .inr ⟨x, h1, rfl⟩⟩
   | false => rw [hb] at hg; exact lentE_get h2 hg
  ·cases h
theorem tr_lent {l : List Oper} {id : Nat} {vc1 El ps} {o : Oper} {f : FuncId} {args : Array Operand} {ts : Array TypeId} {t : Nat} {res : D} {T sz n : Nat} {fo : Nat → D} (i : Nat) (pj : Nat → PV) (n1 : Nat) (us vs ks : List Nat)
  (hi : H[i]? = some (.arr T sz n fo)) (hfo : ∀ j, j < n → fo j = .p (pj j)) (hl : lentE i (.lst sz n pj) E us = some El)
  (h1 : (runQ C.P C.N l.toArray [] [] 0 (l.take n1) El).map (fun q => (q.1, q.2)) = some (vc1, E1)) (hvc1 : all vc1) (hn : l[n1]? = some o) (ho : o.op = .call ⟨.value (.func f), args, ts⟩) (hgd : o.guard = none) (hd : o.dst = some t) (hdk : dstOk C.N (some t) = true) (hf : callable C.P f = true)
  (hps : argPs E1 args.toList = some ps) (hpure : Pure C.P f ps res) (hsc : scalD res = true)
  (hsuf : ((runQ C.P C.N l.toArray [] [] (n1 + 1) (l.drop (n1 + 1)) [(t, none, res)]).bind fun q => (proj q.2 vs).map fun x => (q.1, x)) = some ([], E2)) (hsc2 : scalE E2 = true)
  (hkp : keepsB l ks = true) (hp : proj E ks = some E3) (hk : ∀ a w, SL C (E2 ++ E3) H a w → Q .normal a w) : Tr C (.region id l.toArray false) E H Q := by
 refine tr_open fun a w F γ hH hE hN hD => wp_region_lit ?_
 cases hr1 : runQ C.P C.N l.toArray [] [] 0 (l.take n1) El with
 | none => rw [hr1] at h1; cases h1
 | some q1 =>
 obtain ⟨va, Ea⟩ := q1
 rw [hr1] at h1
 simp only [Option.map_some, Option.some.injEq, Prod.mk.injEq] at h1
 obtain ⟨rfl, rfl⟩ := h1
 cases hq : runQ C.P C.N l.toArray [] [] (n1 + 1) (l.drop (n1 + 1)) [(t, none, res)] with
 | none => rw [hq] at hsuf; cases hsuf
 | some q =>
 obtain ⟨vq, Eq⟩ := q
 rw [hq] at hsuf
 simp only [Option.bind_some, Option.map_eq_some_iff, Prod.mk.injEq] at hsuf
 obtain ⟨Ex, hpx, rfl, rfl⟩ := hsuf
 have hkp2 : keepsB (l.take n1) ks = true ∧ keepsB (l.drop n1) ks = true := by
  have : keepsB (l.take n1 ++ l.drop n1) ks = true := by rw [List.take_append_drop]; exact hkp
  unfold keepsB at this ⊢
  rw [List.all_append, Bool.and_eq_true] at this
  exact this
 have hdr : l.drop n1 = o :: l.drop (n1 + 1) := by
  obtain ⟨hlt, hget⟩ := List.getElem?_eq_some_iff.1 hn
  rw [List.drop_eq_getElem_cons hlt, hget]
 -- the object at rest
 obtain ⟨F1, hF1, hs1, hobj⟩ : ∃ F1 : PHeap, (∀ b c, F b = some c → F1 b = some c) ∧ Sub F1 w ∧ ∀ x, γ i = some x → RelP F1 (.lst sz n pj) [x] := by
  cases hγ : γ i with
  | none => exact ⟨F, fun _ _ h => h, hH.sub, fun x h => by cases h⟩
  | some x =>
   have hge : ∀ b c, F b = some c → addO F x w b = some c := fun b c hb => by
    unfold addO
    rw [if_neg]
    ·exact hb
    ·intro h
     rw [(hH.apart i _ x b hi rfl hγ h).1] at hb
     cases hb
   refine ⟨addO F x w, hge, fun b c hb => ?_, fun y hy => ?_⟩
   ·unfold addO at hb
    split at hb
    ·split at hb
     ·rename_i c' T' z hc
      cases hb
      exact ⟨T', z, hc⟩
     ·cases hb
    ·exact hH.sub b c hb
   ·cases hy
    have h := hH.obj i _ x hi hγ
    cases h with
    | arr0 => exact .lst0
    | @arr _ _ _ _ b cap c a1 a2 a3 a4 a5 =>
     refine .lst (c := c) (by unfold addO; rw [if_pos (by rfl), a1]) a2 (by rw [a4, Nat.zero_add]; exact Nat.mul_le_mul_right _ a2) fun j hj => ?_
     have := a5 j hj
     rw [hfo j hj] at this
     rw [Nat.zero_add]
     cases this with
     | p this => exact this.mono hge
 have hEl : SLE F1 noG El a := by
  intro u g d hg
  obtain ⟨rfl, hh⟩ := lentE_get hl hg
  refine ⟨fun _ => ?_, fun hn => absurd trivial hn⟩
  rcases hh with ⟨h1, rfl⟩ | ⟨x, h1, rfl⟩
  ·obtain ⟨v, v1, v2⟩ := (hE _ _ _ h1).1 trivial
   refine ⟨v, v1, ?_⟩
   cases v2 with
   | many hm => cases hm
   | one _ v2 => cases v2 with | own h _ => exact .one rfl (.p (hobj v h))
  ·obtain ⟨v, v1, v2⟩ := (hE _ _ _ h1).1 trivial
   refine ⟨v, v1, ?_⟩
   cases v2 with
   | one hm v2 => cases v2 with | p v2 => exact .one hm (.p (v2.mono hF1))
   | many hm v2 => cases v2 with | p v2 => exact .many hm (.p (v2.mono hF1))
 have key : wpList C.P l.toArray Q (l.take n1 ++ l.drop n1) a w := by
  refine runQ_keep (P := C.P) (ks := ks) (qs_slh (P := C.P) (N := C.N) hs1) hEl hN hr1 hvc1 hkp2.1 fun a1 k1 k2 k3 k4 => ?_
  rw [hdr]
  have hw : Region.wanted o (yielded l.toArray a1.tmps) = true := by simp [Region.wanted, hgd]
  unfold wpList
  rw [if_pos hw]
  refine .inl ?_
  unfold Oper.wp
  rw [resolve_call ho rfl hf w]
  obtain ⟨hpl, hpr⟩ := argPs_spec k1 hps
  have hc := hpure F1 w (args.toList.map a1.eval) hs1 (by simp [hpl]) hpr
  rw [show (args.toList.map a1.eval).toArray = args.map a1.eval from by simp [← Array.toList_map]] at hc
  refine hc.mono ?_
  rintro e w' ⟨v, F', rfl, hs', hF', hg', hv⟩
  show wpList C.P l.toArray Q (l.drop (n1 + 1)) (a1.put o.dst v) w'
  have hkp3 := hkp2.2
  rw [hdr] at hkp3
  obtain ⟨hkp4, hput⟩ := keeps_put hkp3
  have hsF : Sub F w' := fun b c hb => by
   obtain ⟨T', fz, h⟩ := hH.sub b c hb
   exact ⟨T', fz, by rw [hg'.block b (Array.getElem?_eq_some_iff.1 h).1]; exact h⟩
  have hH' : SLH C F γ H w' := hH.grew hg' (fun _ _ => rfl) hsF
  have hEA : SLE F noG [(t, none, res)] (a1.put o.dst v) := by
   rw [hd]
   exact sle_put (dst := some t) (e := none) (E := []) (fun _ _ _ h => by cases h) k2 hdk (fun _ => scal_rel hsc hv) (fun h => absurd trivial h)
  have := runQ_keep (P := C.P) (ks := ks) (rest := []) (Q := Q) (qs_slh (P := C.P) (N := C.N) hsF) hEA (by rw [put_size]; exact k2) hq trivial hkp4 fun a3 j1 j2 j3 j4 => (show Q .normal a3 w' from
   hk a3 w' ⟨⟨F, γ, hH', sle_app (scalE_sle hsc2 (sle_proj hpx j1)) (sle_kept hp (fun t ht => (j4 t ht).trans ((hput a1 v t ht).trans (k4 t ht))) hE)⟩, j2, (j3.trans put_defers).trans (k3.trans hD)⟩)
  rw [List.append_nil] at this
  exact this
 rw [List.take_append_drop] at key
 exact key
end
end Go.Eng
namespace Go.Eng
open Go.RowKit
def permG (H' : List O) (ρ : Nat → Nat) (γ : Gm) : Gm := fun i => match H'[i]? with
 | none => none
 | some .free => none
 | some _ => γ (ρ i)
def Moved (H' : List O) (ρ : Nat → Nat) (γ γ' : Gm) : Prop := ∀ b o, H'[b]? = some o → o ≠ .free → γ' b = γ (ρ b)
theorem permG_moved {H' : List O} {ρ : Nat → Nat} {γ : Gm} : Moved H' ρ γ (permG H' ρ γ) := by
 intro b o hb hn
 unfold permG
 rw [hb]
 cases o with
 | free => exact absurd rfl hn
 | _ => rfl
theorem permG_some {H' : List O} {ρ : Nat → Nat} {γ : Gm} {i : Nat} {g : Value} (h : permG H' ρ γ i = some g) : (∃ o, H'[i]? = some o ∧ o ≠ .free) ∧ γ (ρ i) = some g := by
 unfold permG at h
 split at h
 ·cases h
 ·cases h
 ·rename_i o ho hn
  exact ⟨⟨_, hn, fun e => by subst e; exact ho rfl⟩, h⟩
section
variable {C : Cx} {E E' : Env} {H H' : List O} {a : Act} {w : World} {F : PHeap} {γ : Gm}
theorem slh_perm (ρ : Nat → Nat) (h0 : C.γ0 = []) (hinj : ∀ i j o o', H'[i]? = some o → H'[j]? = some o' → o.alive = true → o'.alive = true → ρ i = ρ j → i = j)
  (hobj : ∀ i o', H'[i]? = some o' → o' ≠ .free → ∃ o, H[ρ i]? = some o ∧ (o'.alive = true → o.alive = true) ∧ ∀ F γ γ' w g, Moved H' ρ γ γ' → RelO F γ w o g → RelO F γ' w o' g)
  (hS : SLH C F γ H w) : SLH C F (permG H' ρ γ) H' w where
 sub := hS.sub
 ext := hS.ext
 top := fun i hi => by unfold permG; rw [List.getElem?_eq_none hi]
 free := fun i hi => by unfold permG; rw [hi]
 obj := fun i o' g ho hg => by
  obtain ⟨⟨o1, h1, h2⟩, h3⟩ := permG_some hg
  rw [ho] at h1
  cases h1
  obtain ⟨o, e1, _, e3⟩ := hobj i o' ho h2
  exact e3 F γ _ w g permG_moved (hS.obj _ o g e1 h3)
 apart := fun i o' g b ho ha hg hb => by
  obtain ⟨⟨o1, h1, h2⟩, h3⟩ := permG_some hg
  rw [ho] at h1
  cases h1
  obtain ⟨o, e1, e2, _⟩ := hobj i o' ho h2
  obtain ⟨q1, q2, q3⟩ := hS.apart _ o g b e1 (e2 ha) h3 hb
  exact ⟨q1, q2, fun _ => q3 (by rw [h0]; exact Nat.zero_le _)⟩
 given := fun i hi => by rw [h0] at hi; simp at hi
 dis := fun i j o o' g g' b h1 h2 hij a1 a2 k1 k2 hb => by
  obtain ⟨⟨o1, x1, x2⟩, x3⟩ := permG_some k1
  obtain ⟨⟨o2, y1, y2⟩, y3⟩ := permG_some k2
  rw [h1] at x1; cases x1
  rw [h2] at y1; cases y1
  obtain ⟨p, e1, e2, _⟩ := hobj i o h1 x2
  obtain ⟨p', f1, f2, _⟩ := hobj j o' h2 y2
  exact hS.dis _ _ p p' g g' b e1 f1 (fun e => hij (hinj i j o o' h1 h2 a1 a2 e)) (e2 a1) (f2 a2) x3 y3 hb
 os := hS.os
 tape := hS.tape
 output := hS.output
 grows := hS.grows
 block := hS.block
theorem sl_perm (ρ : Nat → Nat) (h0 : C.γ0 = []) (hinj : ∀ i j o o', H'[i]? = some o → H'[j]? = some o' → o.alive = true → o'.alive = true → ρ i = ρ j → i = j)
  (hobj : ∀ i o', H'[i]? = some o' → o' ≠ .free → ∃ o, H[ρ i]? = some o ∧ (o'.alive = true → o.alive = true) ∧ ∀ F γ γ' w g, Moved H' ρ γ γ' → RelO F γ w o g → RelO F γ' w o' g)
  (hE : ∀ t g d', E'.get t = some (g, d') → g = none ∧ ∃ d, E.get t = some (none, d) ∧ ∀ F γ γ' v, Moved H' ρ γ γ' → RelV F γ d v → RelV F γ' d' v) (hS : SL C E H a w) : SL C E' H' a w := by
 obtain ⟨⟨F, γ, h1, h2⟩, h3, h4⟩ := hS
 refine ⟨⟨F, permG H' ρ γ, slh_perm ρ h0 hinj hobj h1, fun t g d' hg => ?_⟩, h3, h4⟩
 obtain ⟨rfl, d, e1, e2⟩ := hE t g d' hg
 obtain ⟨v, q1, q2⟩ := (h2 t none d e1).1 trivial
 exact ⟨fun _ => ⟨v, q1, e2 F γ _ v permG_moved q2⟩, fun hn => absurd trivial hn⟩
def flat : O → Prop
 | .free => False
 | .dead => True
 | .box d => ∃ x, d = .p x
 | .arr _ _ n f => ∀ i, i < n → ∃ x, f i = .p x
 | .map _ _ => True
theorem relO_flat {γ' : Gm} {o : O} {g : Value} (h : flat o) (hr : RelO F γ w o g) : RelO F γ' w o g := by
 have key : ∀ {d : D} {cs}, (∃ x, d = .p x) → RelD F γ d cs → RelD F γ' d cs := fun {d cs} hd hr => by
  obtain ⟨x, rfl⟩ := hd
  cases hr with | p hr => exact .p hr
 cases hr with
 | dead => exact .dead
 | map h1 h2 h3 => exact .map h1 h2 h3
 | box h1 h2 => exact .box h1 (key h h2)
 | arr0 => exact .arr0
 | arr h1 h2 h3 h4 h5 => exact .arr h1 h2 h3 h4 fun i hi => key (h i hi) (h5 i hi)
def RetH (C : Cx) (rs : Array ResultVar) (H : List O) (res : D) : Exit → Act → World → Prop := fun e a w => match e with
 | .ret => a.defers = [] ∧ ∃ v F γ, (∀ fn : Func, fn.results = rs → (results fn a.tmps).run C.P w = .ok v w) ∧ SLH C F γ H w ∧ RelV F γ res v
 | _ => False
theorem tr_returnH {Q : Exit → Act → World → Prop} {rs : Array ResultVar} {res : D} {vc} (h : evRess C.P H E rs.toList = some (vc, [res])) (hvc : all vc) (hQ : ∀ a w, RetH C rs H res .ret a w → Q .ret a w) : Tr C .ret E H Q := by
 refine tr_ret fun a w hS => hQ a w ?_
 obtain ⟨⟨F, γ, hH, hE⟩, hN, hD⟩ := hS
 obtain ⟨vs, h1, h2, h3⟩ := evRess_sound hH hE h hvc
 refine ⟨hD, _, F, γ, fun fn hfn => results_run (by rw [hfn]; exact h3), hH, ?_⟩
 match vs, h1 with
 | [v], _ => exact h2 0 res v rfl rfl
theorem callsH_of {P : Program} {f : FuncId} {fn : Func} {c : Code} {args : List PV} {res : D} {H : List O} {vs : List Value} (hf : P.funcs[f]? = some fn) (hb : fn.body = some c) (hn : Nat.ble args.length fn.ntmps = true)
  (hsub : Sub F w) (hlen : vs.length = args.length) (hrel : ∀ (i : Nat) p v, args[i]? = some p → vs[i]? = some v → RelV F noG (.p p) v)
  (h : Tr ⟨P, w, F, [], fn.ntmps⟩ c (argE args 0) [] (RetH ⟨P, w, F, [], fn.ntmps⟩ fn.results H res)) :
  Calls P f vs.toArray w fun e w' => ∃ v F' γ', e = .returned v ∧ SLH ⟨P, w, F, [], fn.ntmps⟩ F' γ' H w' ∧ RelV F' γ' res v := by
 have hle := Nat.le_of_ble_eq_true hn
 refine calls_of_wp hf hb ?_
 have hSL : SL ⟨P, w, F, [], fn.ntmps⟩ (argE args 0) [] { tmps := vs.toArray ++ Array.replicate (fn.ntmps - vs.toArray.size) undef, defers := [] } w := by
  refine ⟨⟨F, noG, ?_, ?_⟩, by simp [hlen]; omega, rfl⟩
  ·exact { sub := hsub, ext := fun _ _ => rfl, top := fun _ _ => rfl, free := fun _ _ => rfl, obj := fun i o g h => by simp at h, apart := fun i o g b h => by simp at h, given := fun i h => by simp at h, dis := fun i j o o' g g' b h => by simp at h, os := rfl, tape := rfl, output := rfl, grows := Nat.le_refl _, block := fun _ _ _ => rfl }
  ·intro t g d ht
   obtain ⟨rfl, _, p, hp, rfl⟩ := argE_get ht
   rw [Nat.sub_zero] at hp
   have hlt : t < vs.length := by rw [hlen]; exact (List.getElem?_eq_some_iff.1 hp).1
   refine ⟨fun _ => ⟨vs[t], ?_, hrel t p _ hp (List.getElem?_eq_getElem hlt)⟩, fun hn => absurd trivial hn⟩
   rw [Array.getElem?_append_left (by simpa using hlt)]
   simp [hlt]
 refine wp_mono (h _ w hSL) fun e a' w' hq => ?_
 cases e with
 | ret =>
  obtain ⟨hD, v, F', γ, h1, h2, h3⟩ := hq
  exact ⟨hD, v, h1 fn rfl, v, F', γ, rfl, h2, h3⟩
 | _ => exact hq.elim
/-! ### What is new, at rest -/
def pubAll (F : PHeap) (m : Nat) (w : World) : PHeap := fun b => match F b with
 | some c => some c
 | none => if m ≤ b then (match w.heap[b]? with
  | some (.cells c _ _) => some c
  | _ => none) else none
theorem pubAll_ge {m : Nat} : ∀ b c, F b = some c → pubAll F m w b = some c := fun b c h => by unfold pubAll; rw [h]
theorem pubAll_old {m b : Nat} (h : b < m) : pubAll F m w b = F b := by
 unfold pubAll
 cases hb : F b with
 | some c => rfl
 | none => simp only; rw [if_neg (by omega)]
theorem pubAll_sub {m : Nat} (h : Sub F w) : Sub (pubAll F m w) w := by
 intro b c hb
 unfold pubAll at hb
 split at hb
 ·rename_i c' hc
  cases hb
  exact h b c hc
 ·split at hb
  ·split at hb
   ·rename_i c' T z hc
    cases hb
    exact ⟨T, z, hc⟩
   ·cases hb
  ·cases hb
theorem pubAll_new {m b : Nat} {c T z} (hF : F b = none) (hm : m ≤ b) (hc : w.heap[b]? = some (.cells c T z)) : pubAll F m w b = some c := by
 unfold pubAll
 rw [hF]
 simp only
 rw [if_pos hm, hc]
theorem pub_arr {e sz n i : Nat} {f : Nat → D} {g : Nat → PV} {v : Value} (h0 : C.γ0 = []) (hS : SLH C F γ H w) (hi : H[i]? = some (.arr e sz n f)) (hv : γ i = some v)
  (hf : ∀ j, j < n → ∀ cs, RelD F γ (f j) cs → RelP (pubAll F C.w0.heap.size w) (g j) cs) : RelP (pubAll F C.w0.heap.size w) (.lst sz n g) [v] := by
 have hO := hS.obj i _ v hi hv
 have hap := fun b => hS.apart i _ v b hi rfl hv
 cases hO with
 | arr0 => exact .lst0
 | @arr _ _ _ _ b cap c k1 k2 k3 k4 k5 =>
  obtain ⟨a1, a2, a3⟩ := hap b rfl
  refine .lst (b := b) (off := 0) (c := c) (pubAll_new a1 (a3 (by rw [h0]; exact Nat.zero_le _)) k1) k2 (by rw [k4, Nat.zero_add]; exact Nat.mul_le_mul_right _ k2) fun j hj => ?_
  rw [Nat.zero_add]
  exact hf j hj _ (k5 j hj)
theorem tr_dx0 {Q : Exit → Act → World → Prop} {fs : List Foot} {l : List Oper} {id : Nat} {vc} (hs cs : List (Nat × D)) (ts : List Nat) (hm : C.P.follows .mixedOrders = true) (hB : Region.lexB .any l.toArray = true)
  (hF : (sepB l.toArray fs && footB l.length fs) = true)
  (h : (runU C.P C.γ0.length C.N l.toArray hs cs fs H.length 0 l E H).bind (fun q => (proj q.2.1 ts).map fun e => (q.1, e, q.2.2)) = some (vc, E', H')) (hvc : all vc)
  (hk : ∀ a w, SL C E' H' a w → Q .normal a w) : Tr C (.region id l.toArray true) E H Q :=
 tr_dx 0 fs hs cs ts hm hB hF (by rw [show pad 0 H = H from by simp [pad]]; exact h) hvc hk
end
/-! ### In the text's order, the place of a new object given -/
def stepT (P : Program) (m0 N : Nat) (ops : Array Oper) (hs cs : List (Nat × D)) (tg i : Nat) (o : Oper) (E : Env) (H : List O) : Option (List Prop × Env × List O) :=
 match stepG P N ops H hs cs i o E with
 | some (vc, E') => some (vc, E', H)
 | none => (stepY P m0 N ops H cs tg i o E).map fun q => (q.1, q.2.1, applyU H q.2.2)
def runT (P : Program) (m0 N : Nat) (ops : Array Oper) (hs cs : List (Nat × D)) (tg : Nat → Nat) : Nat → List Oper → Env → List O → Option (List Prop × Env × List O)
 | _, [], E, H => some ([], E, H)
 | i, o :: l, E, H => match stepT P m0 N ops hs cs (tg i) i o E H with
  | some (vc, E', H') => match runT P m0 N ops hs cs tg (i + 1) l E' H' with
   | some (vc', E'', H'') => some (vc ++ vc', E'', H'')
   | none => none
  | none => none
section
variable {C : Cx} {F : PHeap} {γ : Gm} {E E' : Env} {H H' : List O} {a : Act} {w : World} {Q : Exit → Act → World → Prop} {ops : Array Oper} {hs cs : List (Nat × D)}
theorem runT_list {tg : Nat → Nat} : ∀ {l : List Oper} {i : Nat} {E E' : Env} {H H' : List O} {a : Act} {w : World} {vc} {rest : List Oper}, SL C E H a w → runT C.P C.γ0.length C.N ops hs cs tg i l E H = some (vc, E', H') → all vc →
  (∀ a' w', SL C E' H' a' w' → wpList C.P ops Q rest a' w') → wpList C.P ops Q (l ++ rest) a w
 | [], i, E, E', H, H', a, w, vc, rest, hSL, h, _, hk => by
  simp only [runT, Option.some.injEq, Prod.mk.injEq] at h
  obtain ⟨_, rfl, rfl⟩ := h
  exact hk a w hSL
 | o :: l, i, E, E', H, H', a, w, vc, rest, hSL, h, hvc, hk => by
  simp only [runT] at h
  split at h
  ·rename_i vc1 E1 H1 h1
   split at h
   ·rename_i vc2 E2 H2 h2
    simp only [Option.some.injEq, Prod.mk.injEq] at h
    obtain ⟨rfl, rfl, rfl⟩ := h
    rw [all_append] at hvc
    obtain ⟨⟨F, γ, hS, hE⟩, hN, hD⟩ := hSL
    show wpList C.P ops Q (o :: (l ++ rest)) a w
    unfold wpList
    unfold stepT at h1
    split at h1
    ·rename_i vc0 E0 h0
     simp only [Option.some.injEq, Prod.mk.injEq] at h1
     obtain ⟨rfl, rfl, rfl⟩ := h1
     have key := stepG_sound (Q := Q) hS hE hN h0 hvc.1 (K := fun a' w' => wpList C.P ops Q (l ++ rest) a' w') fun v w' F' k1 k2 k3 =>
      runT_list (SL.mk' k1 k3 (by rw [put_size, hN]) (by rw [put_defers, hD])) h2 hvc.2 hk
     split
     ·rename_i hw
      rw [if_pos hw] at key
      exact .inl key
     ·rename_i hw
      rw [if_neg hw] at key
      exact key
    ·simp only [Option.map_eq_some_iff, Prod.mk.injEq] at h1
     obtain ⟨q, hq, rfl, rfl, rfl⟩ := h1
     obtain ⟨⟨hw, key⟩, _⟩ := stepY_sound (Q := Q) hS hE hN hq hvc.1 (K := fun a' w' => wpList C.P ops Q (l ++ rest) a' w') fun v w' F' γ' k1 k2 _ _ =>
      runT_list (SL.mk' k1 k2 (by rw [put_size, hN]) (by rw [put_defers, hD])) h2 hvc.2 hk
     rw [if_pos hw]
     exact .inl key
   ·cases h
  ·cases h
theorem tr_r0 {l : List Oper} {id : Nat} {vc} (tg : Nat → Nat) (hs cs : List (Nat × D)) (ts : List Nat)
  (h : (runT C.P C.γ0.length C.N l.toArray hs cs tg 0 l E H).bind (fun q => (proj q.2.1 ts).map fun e => (q.1, e, q.2.2)) = some (vc, E', H')) (hvc : all vc)
  (hk : ∀ a w, SL C E' H' a w → Q .normal a w) : Tr C (.region id l.toArray false) E H Q := fun a w hS => by
 refine wp_region_lit ?_
 cases hr : runT C.P C.γ0.length C.N l.toArray hs cs tg 0 l E H with
 | none => rw [hr] at h; cases h
 | some q =>
  obtain ⟨vc1, E1, H1⟩ := q
  rw [hr] at h
  simp only [Option.bind_some, Option.map_eq_some_iff, Prod.mk.injEq] at h
  obtain ⟨e, he, rfl, rfl, rfl⟩ := h
  have := runT_list (Q := Q) (rest := []) hS hr hvc fun a' w' h' => hk a' w' (sl_proj he h')
  rwa [List.append_nil] at this
end
end Go.Eng
namespace Go.Proofs.Ytjnjmnfacaakfaa
open Go.Eng
def rowc (l : Lang) (k : Nat) : List Int := (l.Next.getD k []).take (min ((l.Next.getD k []).length) 40)
def accc (l : Lang) : List Bool := l.Accept.take (min l.Accept.length 18)
def numc (l : Lang) : Nat := min l.Next.length 18
def rowsC (l : Lang) (k : Nat) : List O := (List.range k).map fun j => oL 3 eI 1 0 (rowc l j)
def zzc : D := .p (.agg [.v (.slice none 0 0), .v (.slice none 0 0)])
def copE (k : Nat) : Env := [(1, none, .ref 0 []), (2, none, .ref 1 []), (3, none, .ref 2 []), (4, none, vint .i64 (k : Int))]
def copH (l : Lang) (z : D) (k : Nat) : List O :=
 .box (.p (eLang l)) :: .box z :: .box (.agg [.own 3, .own 4]) :: oL 4 eB 1 false (accc l) :: .arr 22 1 k (fun j => .own (j + 10)) :: .free :: .free :: .free :: .free :: .free :: rowsC l k
def copH6 (l : Lang) (k : Nat) : List O :=
 .box (.p (eLang l)) :: .box zzc :: .box (.agg [.own 3, .own 8]) :: oL 4 eB 1 false (accc l) :: .dead :: .dead :: oL 3 eI 1 0 (rowc l k) :: .arr 22 1 1 (fun j => ([.own 6] : List D).getD j default) ::
  .arr 22 1 (k + 1) (appF (fun j => .own (j + 10)) k (fun j => ([.own 6] : List D).getD j default)) :: .free :: rowsC l k
theorem flat_oL {α : Type} {T : TypeId} {e : α → PV} {sz : Nat} {d : α} {xs : List α} : flat (oL T e sz d xs) := fun _ _ => ⟨_, rfl⟩
theorem rowsC_get {l : Lang} {k j : Nat} {o : O} (h : (rowsC l k)[j]? = some o) : j < k ∧ o = oL 3 eI 1 0 (rowc l j) := by
 unfold rowsC at h
 rw [List.getElem?_map] at h
 by_cases hj : j < k
 ·rw [List.getElem?_range hj] at h
  exact ⟨hj, (Option.some.inj h).symm⟩
 ·rw [List.getElem?_eq_none (by simpa using hj)] at h
  cases h
theorem rowsC_at {l : Lang} {k j : Nat} (h : j < k) : (rowsC l k)[j]? = some (oL 3 eI 1 0 (rowc l j)) := by
 unfold rowsC
 rw [List.getElem?_map, List.getElem?_range h]; rfl
theorem relV_refC {F : PHeap} {γ γ' : Gm} {i : Nat} {p : List Step} {v : Value} (h : γ' i = γ i) (hr : RelV F γ (.ref i p) v) : RelV F γ' (.ref i p) v := by
 cases hr with
 | many hm => cases hm
 | one _ hr => cases hr with | ref e1 e2 => exact .one rfl (.ref (h.trans e1) e2)
theorem copE_moved {l : Lang} {z : D} {k n : Nat} {ρ : Nat → Nat} (h0 : ρ 0 = 0) (h1 : ρ 1 = 1) (h2 : ρ 2 = 2) : ∀ t g d', (copE n).get t = some (g, d') → g = none ∧ ∃ d, (copE n).get t = some (none, d) ∧ ∀ F γ γ' v, Moved (copH l z k) ρ γ γ' → RelV F γ d v → RelV F γ' d' v := by
 intro t g d' h
 match t, h with
 | 0, h => cases h
 | 1, h => cases h; exact ⟨rfl, _, rfl, fun F γ γ' v hm hr => relV_refC (by rw [hm 0 _ rfl (by simp), h0]) hr⟩
 | 2, h => cases h; exact ⟨rfl, _, rfl, fun F γ γ' v hm hr => relV_refC (by rw [hm 1 _ rfl (by simp), h1]) hr⟩
 | 3, h => cases h; exact ⟨rfl, _, rfl, fun F γ γ' v hm hr => relV_refC (by rw [hm 2 _ rfl (by simp), h2]) hr⟩
 | 4, h => cases h; exact ⟨rfl, _, rfl, fun F γ γ' v hm hr => by
   cases hr with
   | many hm => cases hm
   | one q hr => cases hr with | p hr => exact .one q (.p hr)⟩
 | n + 5, h => cases h
theorem relO_two {F : PHeap} {γ γ' : Gm} {w : World} {i j i' j' : Nat} {g : Value} (h1 : γ' i' = γ i) (h2 : γ' j' = γ j) (hr : RelO F γ w (.box (.agg [.own i, .own j])) g) : RelO F γ' w (.box (.agg [.own i', .own j'])) g := by
 cases hr with
 | @box _ b c T k1 k2 =>
  refine .box k1 ?_
  generalize c.toList = cs at k2
  cases k2 with
  | cons x1 x2 => cases x1 with
   | own e1 o1 => cases x2 with
    | cons y1 y2 => cases y1 with
     | own e2 o2 => cases y2; exact .cons (.own (h1.trans e1) o1) (.cons (.own (h2.trans e2) o2) .nil)
section
variable {C : Cx} {E : Env} {a : Act} {w : World}
theorem cop_start (l : Lang) (h0 : C.γ0 = []) (hS : SL C (copE 0) [.box (.p (eLang l)), .box zzc, .box (.agg [.own 3, .own 4]), oL 4 eB 1 false (accc l), .arr 22 1 0 (fun j => .own (j + 10))] a w) : SL C (copE 0) (copH l zzc 0) a w := by
 refine sl_perm (fun i => i) h0 (fun i j _ _ _ _ _ _ e => e) (fun i o' hi hf => ?_) (copE_moved rfl rfl rfl) hS
 match i, hi with
 | 0, hi => cases hi; exact ⟨_, rfl, id, fun F γ γ' w g _ hr => relO_flat ⟨_, rfl⟩ hr⟩
 | 1, hi => cases hi; exact ⟨_, rfl, id, fun F γ γ' w g _ hr => relO_flat ⟨_, rfl⟩ hr⟩
 | 2, hi => cases hi; exact ⟨_, rfl, id, fun F γ γ' w g hm hr => relO_two (hm 3 _ rfl (by unfold oL; simp)) (hm 4 _ rfl (by simp)) hr⟩
 | 3, hi => cases hi; exact ⟨_, rfl, id, fun F γ γ' w g _ hr => relO_flat flat_oL hr⟩
 | 4, hi => cases hi; exact ⟨_, rfl, id, fun F γ γ' w g _ hr => relO_flat (fun i hi => absurd hi (Nat.not_lt_zero _)) hr⟩
 | 5, hi => cases hi; exact absurd rfl hf
 | 6, hi => cases hi; exact absurd rfl hf
 | 7, hi => cases hi; exact absurd rfl hf
 | 8, hi => cases hi; exact absurd rfl hf
 | 9, hi => cases hi; exact absurd rfl hf
 | i + 10, hi => have := (rowsC_get (l := l) (k := 0) (j := i) hi).1; omega
def rhoC (k : Nat) : Nat → Nat := fun i => if i = 4 then 8 else if i = k + 10 then 6 else i
theorem cop_next (l : Lang) (k : Nat) (h0 : C.γ0 = []) (hS : SL C (copE (k + 1)) (copH6 l k) a w) : SL C (copE (k + 1)) (copH l zzc (k + 1)) a w := by
 refine sl_perm (rhoC k) h0 (fun i j o o' hi hj ai aj e => ?_) (fun i o' hi hf => ?_) (copE_moved rfl rfl rfl) hS
 ·have no : ∀ {i o}, (copH l zzc (k + 1))[i]? = some o → o.alive = true → i < 5 ∨ 10 ≤ i := by
   intro i o hi ai
   match i, hi with
   | 0, _ => exact .inl (by omega)
   | 1, _ => exact .inl (by omega)
   | 2, _ => exact .inl (by omega)
   | 3, _ => exact .inl (by omega)
   | 4, _ => exact .inl (by omega)
   | 5, hi => cases hi; cases ai
   | 6, hi => cases hi; cases ai
   | 7, hi => cases hi; cases ai
   | 8, hi => cases hi; cases ai
   | 9, hi => cases hi; cases ai
   | i + 10, _ => exact .inr (by omega)
  have h1 := no hi ai
  have h2 := no hj aj
  unfold rhoC at e
  split at e <;> split at e <;> (try split at e) <;> (try split at e) <;> omega
 ·match i, hi with
  | 0, hi => cases hi; exact ⟨_, rfl, id, fun F γ γ' w g _ hr => relO_flat ⟨_, rfl⟩ hr⟩
  | 1, hi => cases hi; exact ⟨_, rfl, id, fun F γ γ' w g _ hr => relO_flat ⟨_, rfl⟩ hr⟩
  | 2, hi => cases hi; exact ⟨_, rfl, id, fun F γ γ' w g hm hr => relO_two (hm 3 _ rfl (by unfold oL; simp)) (hm 4 _ rfl (by simp)) hr⟩
  | 3, hi => cases hi; exact ⟨_, rfl, id, fun F γ γ' w g _ hr => relO_flat flat_oL hr⟩
  | 4, hi =>
   cases hi
   refine ⟨_, rfl, id, fun F γ γ' w g hm hr => ?_⟩
   cases hr with
   | arr k1 k2 k3 k4 k5 =>
    refine .arr k1 k2 k3 k4 fun j hj => ?_
    have h5 := k5 j hj
    have hmj := hm (j + 10) _ (show (copH l zzc (k + 1))[j + 10]? = _ from rowsC_at hj) (by unfold oL; simp)
    unfold appF at h5
    generalize (List.take _ (List.drop _ _) : List Value) = cs at h5 ⊢
    by_cases hjk : j < k
    ·rw [if_pos hjk] at h5
     have : rhoC k (j + 10) = j + 10 := by unfold rhoC; rw [if_neg (by omega), if_neg (by omega)]
     rw [this] at hmj
     cases h5 with | own e1 o1 => exact .own (hmj.trans e1) o1
    ·rw [if_neg hjk] at h5
     obtain rfl : j = k := by omega
     rw [Nat.sub_self] at h5
     have : rhoC j (j + 10) = 6 := by unfold rhoC; rw [if_neg (by omega), if_pos rfl]
     rw [this] at hmj
     cases h5 with | own e1 o1 => exact .own (hmj.trans e1) o1
  | 5, hi => cases hi; exact absurd rfl hf
  | 6, hi => cases hi; exact absurd rfl hf
  | 7, hi => cases hi; exact absurd rfl hf
  | 8, hi => cases hi; exact absurd rfl hf
  | 9, hi => cases hi; exact absurd rfl hf
  | i + 10, hi =>
   obtain ⟨hik, rfl⟩ := rowsC_get (l := l) (k := k + 1) (j := i) hi
   refine ⟨oL 3 eI 1 0 (rowc l i), ?_, id, fun F γ γ' w g _ hr => relO_flat flat_oL hr⟩
   unfold rhoC
   rw [if_neg (by omega)]
   by_cases hk : i = k
   ·subst hk; rw [if_pos rfl]; rfl
   ·rw [if_neg (by omega)]
    exact rowsC_at (l := l) (k := k) (j := i) (by omega)
end
theorem copied_new (l : Lang) (F_ : PHeap) (W0_ : World) (vs : List Value) (hsub : Sub F_ W0_) (hlen : vs.length = 1) (hrel : ∀ (i : Nat) p v, ([eLang l] : List PV)[i]? = some p → vs[i]? = some v → RelV F_ noG (.p p) v) :
  Calls Try.prog 18 vs.toArray W0_ fun e w' => ∃ v F' γ', e = .returned v ∧ SLH ⟨Try.prog, W0_, F_, [], Try.f18.ntmps⟩ F' γ' (copH l (.agg [.own 3, .own 4]) (numc l)) w' ∧ RelV F' γ' (.agg [.own 3, .own 4]) v := by
 refine callsH_of (args := [eLang l]) (fn := Try.f18) Try.func18 rfl rfl hsub hlen hrel ?_
 refine tr_seq (q_t [1, 2] [.ref 0 [], .ref 1 []] [.box (.p (eLang l)), .box (.p (.agg [.v (.slice none 0 0), .v (.slice none 0 0)]))] (tr_then (tr_seq (q_t [1, 2, 3] [.ref 0 [], .ref 1 [], .ref 2 []] [.box (.p (eLang l)), .box (.p (.agg [.v (.slice none 0 0), .v (.slice none 0 0)])), .box (.p (.agg [.v (.slice none 0 0), .v (.slice none 0 0)]))] (tr_then (tr_seq (tr_dx (vc := [(min (l.Accept.length : Int) 18) = (((min l.Accept.length 18) : Nat) : Int), (0 : Int) ≤ 0, 0 ≤ (((min l.Accept.length 18) : Nat) : Int), (((min l.Accept.length 18) : Nat) : Int) ≤ (l.Accept.length : Int), ((min l.Accept.length 18) - 0) = (l.Accept.take (min l.Accept.length 18)).length ∧ ∀ j, j < ((min l.Accept.length 18) - 0) → eB (l.Accept.getD (0 + j) false) = eB ((l.Accept.take (min l.Accept.length 18)).getD j false), (0 + ((l.Accept.take (min l.Accept.length 18)).length)) * 1 ≤ 140737488355328]) (E' := [(1, none, .ref 0 []), (2, none, .ref 1 []), (3, none, .ref 2 [])]) (H' := [.box (.p (eLang l)), .box (.p (.agg [.v (.slice none 0 0), .v (.slice none 0 0)])), .box (.agg [.own 3, .p (.v (.slice none 0 0))]), .arr 4 1 (0 + (l.Accept.take (min l.Accept.length 18)).length) (appF (fun _ => default) 0 (fun j => .p (eB ((l.Accept.take (min l.Accept.length 18)).getD j false))))]) 4 [(1, 4, [], [2]), (3, 4, [], [0]), (5, 4, [], [0]), (9, 3, [3], [3]), (11, 4, [2], [2, 3])] [(7, vint .i64 (((min l.Accept.length 18) : Nat) : Int)), (8, .p ((eL eB 1 false) (l.Accept.take (min l.Accept.length 18))))] [] [1, 2, 3] (by kernel_rfl) (by kernel_rfl) (by kernel_rfl) (by kernel_rfl) (al (by omega) (al (by omega) (al (by omega) (al (by omega) (al (cut_take (by omega)) (al (by simp_all; omega) (trivial))))))) (nm_pre (E' := [(1, none, .ref 0 []), (2, none, .ref 1 []), (3, none, .ref 2 [])]) (H' := [.box (.p (eLang l)), .box (.p (.agg [.v (.slice none 0 0), .v (.slice none 0 0)])), .box (.agg [.own 3, .p (.v (.slice none 0 0))]), oL 4 eB 1 false (l.Accept.take (min l.Accept.length 18))]) (fun _ _ => sl_arr (n := (0 + (l.Accept.take (min l.Accept.length 18)).length)) (n' := (l.Accept.take (min l.Accept.length 18)).length) (f := appF (fun _ => default) 0 (fun j => .p (eB ((l.Accept.take (min l.Accept.length 18)).getD j false)))) 3 (fun i => .p (eB ((l.Accept.take (min l.Accept.length 18)).getD i false))) (by kernel_rfl) (by simp) (by first | exact appN | exact nilN | exact app0 | exact nilV _)) (tr_then (tr_seq (tr_seq (q_m [1, 2, 3, 4] [.ref 0 [], .ref 1 [], .ref 2 [], vint .i64 0] (tr_then (tr_block (tr_loop (α := Nat) (fun k : Nat => copE k) (fun k : Nat => copH l zzc k) (fun k : Nat => k ≤ numc l) (fun k : Nat => numc l - k) 0 (Nat.zero_le _) ?_ ?_)))))))))))))))
 ·intro A_ W_ hS
  replace hS := q_a (d := vint .i64 0) 4 (vint .i64 ((0 : Nat) : Int)) (eqD_int rfl) hS
  replace hS := sl_nil_box (d := .agg [.own 3, .p (.v (.slice none 0 0))]) (l := [.own 3, .p (.v (.slice none 0 0))]) 2 1 22 1 (fun j => .own (j + 10)) (by kernel_rfl) (by kernel_rfl) (by kernel_rfl) hS
  exact cop_start l rfl (sl_proj (e := copE 0) (ts := [1, 2, 3, 4]) (by kernel_rfl) hS)
 ·intro k hz
  have hz : k ≤ numc l := hz
  have hnl : numc l ≤ l.Next.length := Nat.min_le_left _ _
  have hn18 : numc l ≤ 18 := Nat.min_le_right _ _
  refine tr_seq (tr_seq (q_s [(decide ((k : Int) < (l.Next.length : Int))) = true → (decide ((k : Int) < (l.Next.length : Int))) = true, (decide ((k : Int) < (l.Next.length : Int))) = true → (decide ((k : Int) < (l.Next.length : Int))) = true] [1, 2, 3, 4, 24] [.ref 0 [], .ref 1 [], .ref 2 [], vint .i64 (k : Int), vbool ((decide ((k : Int) < (l.Next.length : Int))) && (decide ((k : Int) < 18)))] (copH l zzc k) (al id (al id (trivial))) (tr_then (q_c ((decide ((k : Int) < (l.Next.length : Int))) && (decide ((k : Int) < 18))) (((k : Int) < (l.Next.length : Int)) ∧ ((k : Int) < 18)) (fun hc1 => ?_) (fun hc1 => ?_)))))
  ·refine tr_skip (tr_then (tr_seq (tr_block (tr_dx0 (fs := [(1, 9, [], [2, 9]), (2, 5, [5], [5]), (4, 9, [], [0, 9]), (9, 9, [], [0, 9]), (16, 6, [5, 6], [5, 6]), (17, 7, [7], [6, 7]), (18, 8, [4, 8], [4, 7, 8]), (20, 9, [2], [2, 8, 9])]) (vc := [(0 : Int) ≤ (k : Int), (k : Int) < (l.Next.length : Int), (0 : Int) ≤ (k : Int), (k : Int) < (l.Next.length : Int), (min (((l.Next.getD k []).length : Nat) : Int) 40) = (((min ((l.Next.getD k []).length) 40) : Nat) : Int), (0 : Int) ≤ 0, 0 ≤ (((min ((l.Next.getD k []).length) 40) : Nat) : Int), (((min ((l.Next.getD k []).length) 40) : Nat) : Int) ≤ ((l.Next.getD k []).length : Int), ((min ((l.Next.getD k []).length) 40) - 0) = ((l.Next.getD k []).take (min ((l.Next.getD k []).length) 40)).length ∧ ∀ j, j < ((min ((l.Next.getD k []).length) 40) - 0) → eI ((l.Next.getD k []).getD (0 + j) 0) = eI (((l.Next.getD k []).take (min ((l.Next.getD k []).length) 40)).getD j 0), (0 + (((l.Next.getD k []).take (min ((l.Next.getD k []).length) 40)).length)) * 8 ≤ 140737488355328, (k + 1) * 24 ≤ 140737488355328]) (E' := [(1, none, .ref 0 []), (2, none, .ref 1 []), (3, none, .ref 2 []), (4, none, vint .i64 (k : Int))]) (H' := .box (.p (eLang l)) :: .box zzc :: .box (.agg [.own 3, .own 8]) :: oL 4 eB 1 false (accc l) :: .dead :: .dead :: .arr 3 1 (0 + (((l.Next.getD k []).take (min ((l.Next.getD k []).length) 40))).length) (appF (fun j => ([] : List D).getD j default) 0 (fun j => .p (eI ((((l.Next.getD k []).take (min ((l.Next.getD k []).length) 40))).getD j 0)))) :: .arr 22 1 1 (fun j => ([.own 6] : List D).getD j default) :: .arr 22 1 (k + 1) (appF (fun j => .own (j + 10)) k (fun j => ([.own 6] : List D).getD j default)) :: .free :: rowsC l k) [(14, vint .i64 (((min ((l.Next.getD k []).length) 40) : Nat) : Int)), (15, .p ((eL eI 1 0) ((l.Next.getD k []).take (min ((l.Next.getD k []).length) 40))))] [] [1, 2, 3, 4] (by kernel_rfl) (by kernel_rfl) (by kernel_rfl) (by kernel_rfl) (al (by omega) (al (by omega) (al (by omega) (al (by omega) (al (by omega) (al (by omega) (al (by omega) (al (by omega) (al (cut_take (by omega)) (al (by simp_all; omega) (al (by omega) (trivial)))))))))))) (nm_pre (E' := [(1, none, .ref 0 []), (2, none, .ref 1 []), (3, none, .ref 2 []), (4, none, vint .i64 (k : Int))]) (H' := (copH6 l k)) (fun _ _ => sl_arr (n := (0 + ((l.Next.getD k []).take (min ((l.Next.getD k []).length) 40)).length)) (n' := ((l.Next.getD k []).take (min ((l.Next.getD k []).length) 40)).length) (f := appF (fun j => ([] : List D).getD j default) 0 (fun j => .p (eI (((l.Next.getD k []).take (min ((l.Next.getD k []).length) 40)).getD j 0)))) 6 (fun i => .p (eI (((l.Next.getD k []).take (min ((l.Next.getD k []).length) 40)).getD i 0))) (by kernel_rfl) (by first | rfl | (simp; done) | (simp; omega)) (by exact app_of (by first | rfl | (simp; done) | (simp; omega)) (lit_getD (e := eI) (d := 0) (l := [])))) (in_n (tr_then (q_k [(IntKind.wrap .i64 ((k : Int) + 1)) = (((k + 1) : Nat) : Int)] [1, 2, 3, 4] [.ref 0 [], .ref 1 [], .ref 2 [], vint .i64 (((k + 1) : Nat) : Int)] [(1, vint .i64 (((k + 1) : Nat) : Int))] [] (al (wr64 (by omega) (by omega) (by omega)) (trivial)) (lp_end (k + 1) ?_ ?_ ?_)))))))))
   ·show k + 1 ≤ numc l
    unfold numc; omega
   ·show numc l - (k + 1) < numc l - k
    unfold numc; omega
   ·intro A_ W_ hS
    exact cop_next l k rfl hS
  ·refine tr_exit (th_e (th_e (in_hit (tr_then ?_))))
   obtain rfl : k = numc l := by unfold numc at hz ⊢; omega
   exact tr_seq (tr_r0 (vc := []) (E' := [(2, none, .ref 1 [])]) (H' := copH l (.agg [.own 3, .own 4]) (numc l)) (fun _ => 9) [] [] [2] (by kernel_rfl) trivial (tr_then (tr_returnH (vc := []) (by kernel_rfl) trivial (fun _ _ h => h))))
end Go.Proofs.Ytjnjmnfacaakfaa
namespace Go.Proofs.Ytjnjmnfacaakfaa
open Go.Eng
def copyS (l : Lang) : Lang := { Accept := accc l, Next := (List.range (numc l)).map (rowc l) }
theorem copyS_len (l : Lang) : (copyS l).Next.length = numc l := by simp [copyS]
theorem copyS_row {l : Lang} {j : Nat} (h : j < numc l) : (copyS l).Next.getD j [] = rowc l j := by
 simp [copyS, List.getD_eq_getElem?_getD, List.getElem?_map, List.getElem?_range h]
section
variable {C : Cx} {F : PHeap} {γ : Gm} {w : World} {l : Lang} {z : D}
theorem cop_row (h0 : C.γ0 = []) (hS : SLH C F γ (copH l z (numc l)) w) {j : Nat} (hj : j < numc l) {g : Value} (hg : γ (j + 10) = some g) : RelP (pubAll F C.w0.heap.size w) (eL eI 1 0 (rowc l j)) [g] :=
 pub_arr (i := j + 10) (f := fun i => .p (eI ((rowc l j).getD i 0))) h0 hS (rowsC_at hj) hg fun i _ cs h => by cases h with | p h => exact h.mono pubAll_ge
theorem cop_rest (h0 : C.γ0 = []) (hS : SLH C F γ (copH l z (numc l)) w) {v : Value} (hv : RelV F γ (.agg [.own 3, .own 4]) v) : RelV (pubAll F C.w0.heap.size w) noG (.p (eLang (copyS l))) v := by
 cases hv with
 | one hm => cases hm
 | many hm h =>
  refine .many rfl (.p ?_)
  cases h with
  | cons a b => cases a with
   | own e1 o1 => cases b with
    | cons c d => cases c with
     | own e2 o2 => cases d with
      | nil =>
       refine .cons (pub_arr (i := 3) (n := (accc l).length) (f := fun i => .p (eB ((accc l).getD i false))) h0 hS rfl e1 fun i _ cs h => by cases h with | p h => exact h.mono pubAll_ge) (.cons ?_ .nil)
       have := pub_arr (i := 4) (n := numc l) (f := fun j => .own (j + 10)) (g := fun j => eL eI 1 0 ((copyS l).Next.getD j [])) h0 hS rfl e2 fun j hj cs h => by
        cases h with
        | own e3 o3 => rw [copyS_row hj]; exact cop_row h0 hS hj e3
       rw [← copyS_len l] at this
       exact this
end
theorem copied_ok (l : Lang) : Pure Try.prog 18 [eLang l] (.p (eLang (copyS l))) := by
 intro F w vs hsub hlen hrel
 refine (copied_new l F w vs hsub hlen hrel).mono ?_
 rintro e w' ⟨v, F', γ', rfl, hS, hv⟩
 exact ⟨v, pubAll F' w.heap.size w', rfl, pubAll_sub hS.sub, fun b hb => (pubAll_old hb).trans (hS.ext b hb), ⟨hS.os, hS.tape, hS.output, hS.grows, fun k hk => hS.block k hk (fun g hg => by simp at hg)⟩, cop_rest rfl hS hv⟩
end Go.Proofs.Ytjnjmnfacaakfaa
namespace Go.Eng
open Go.RowKit
section
variable {C : Cx} {E E' : Env} {H H' T : List O} {a : Act} {w w' : World} {F F' : PHeap} {γ γ2 : Gm} {P : Program} {N p : Nat}
def joinG (p : Nat) (γ γ2 : Gm) : Gm := fun i => if i < p then γ i else γ2 i
theorem slh_join (h0 : C.γ0 = []) (hp : H.length = p) (hS : SLH C F γ H w) (h2 : SLH ⟨P, w, F, [], N⟩ F' γ2 (List.replicate p .free ++ T) w') :
  SLH C F' (joinG p γ γ2) (H ++ T) w' := by
 have hge : ∀ b c, F b = some c → F' b = some c := fun b c hb => by rw [h2.ext b (sub_lt hS hb)]; exact hb
 have hγ : ∀ (i : Nat) g, γ i = some g → joinG p γ γ2 i = some g := fun i g h => by
  unfold joinG
  rw [if_pos]
  ·exact h
  ·rcases Nat.lt_or_ge i p with h1 | h1
   ·exact h1
   ·rw [hS.top i (by omega)] at h; cases h
 have hγ2 : ∀ (i : Nat) g, γ2 i = some g → joinG p γ γ2 i = some g := fun i g h => by
  unfold joinG
  rw [if_neg]
  ·exact h
  ·intro hi
   rw [h2.free i (by rw [List.getElem?_append_left (by simpa using hi), List.getElem?_replicate, if_pos hi])] at h
   cases h
 have hold : ∀ b, b < w.heap.size → w'.heap[b]? = w.heap[b]? := fun b hb => h2.block b hb fun g hg => by simp at hg
 have cases_ : ∀ {i : Nat} {o : O} {g : Value}, (H ++ T)[i]? = some o → joinG p γ γ2 i = some g → (i < p ∧ H[i]? = some o ∧ γ i = some g) ∨ (p ≤ i ∧ T[i - p]? = some o ∧ γ2 i = some g ∧ (List.replicate p .free ++ T)[i]? = some o) := by
  intro i o g ho hg
  unfold joinG at hg
  by_cases hi : i < p
  ·rw [if_pos hi] at hg
   rw [List.getElem?_append_left (by omega)] at ho
   exact .inl ⟨hi, ho, hg⟩
  ·rw [if_neg hi] at hg
   rw [List.getElem?_append_right (by omega), hp] at ho
   refine .inr ⟨by omega, ho, hg, ?_⟩
   rw [List.getElem?_append_right (by simp; omega), List.length_replicate]
   exact ho
 exact {
  sub := h2.sub
  ext := fun b hb => (h2.ext b (Nat.lt_of_lt_of_le hb hS.grows)).trans (hS.ext b hb)
  top := fun i hi => by
   rw [List.length_append] at hi
   unfold joinG
   rw [if_neg (by omega)]
   exact h2.top i (by simp; omega)
  free := fun i hi => by
   unfold joinG
   by_cases h : i < p
   ·rw [if_pos h]
    rw [List.getElem?_append_left (by omega)] at hi
    exact hS.free i hi
   ·rw [if_neg h]
    rw [List.getElem?_append_right (by omega), hp] at hi
    refine h2.free i ?_
    rw [List.getElem?_append_right (by simp; omega), List.length_replicate]
    exact hi
  obj := fun i o g ho hg => by
   rcases cases_ ho hg with ⟨h1, h2', h3⟩ | ⟨h1, h2', h3, h4⟩
   ·have hr := hS.obj i o g h2' h3
    cases hal : o.alive with
    | true => exact (hr.same fun b hb => (hold b (hS.apart i o g b h2' hal h3 hb).2.1)).mono hge hγ
    | false =>
     cases o with
     | dead => exact .dead
     | free => cases hr
     | _ => cases hal
   ·exact (h2.obj i o g h4 h3).mono (fun _ _ h => h) hγ2
  apart := fun i o g b ho ha hg hb => by
   rcases cases_ ho hg with ⟨h1, h2', h3⟩ | ⟨h1, h2', h3, h4⟩
   ·obtain ⟨q1, q2, q3⟩ := hS.apart i o g b h2' ha h3 hb
    exact ⟨(h2.ext b q2).trans q1, Nat.lt_of_lt_of_le q2 h2.grows, q3⟩
   ·obtain ⟨q1, q2, q3⟩ := h2.apart i o g b h4 ha h3 hb
    exact ⟨q1, q2, fun _ => Nat.le_trans hS.grows (q3 (Nat.zero_le _))⟩
  given := fun i hi => by rw [h0] at hi; simp at hi
  dis := fun i j o o' g g' b h1 h2' hij a1 a2 k1 k2 hb => by
   rcases cases_ h1 k1 with ⟨x1, x2, x3⟩ | ⟨x1, x2, x3, x4⟩
   ·rcases cases_ h2' k2 with ⟨y1, y2, y3⟩ | ⟨y1, y2, y3, y4⟩
    ·exact hS.dis i j o o' g g' b x2 y2 hij a1 a2 x3 y3 hb
    ·intro hb'
     have q1 := (hS.apart i o g b x2 a1 x3 hb).2.1
     have q2 := (h2.apart j o' g' b y4 a2 y3 hb').2.2 (Nat.zero_le _)
     have : w.heap.size ≤ b := q2
     omega
   ·rcases cases_ h2' k2 with ⟨y1, y2, y3⟩ | ⟨y1, y2, y3, y4⟩
    ·intro hb'
     have q1 := (hS.apart j o' g' b y2 a2 y3 hb').2.1
     have q2 : w.heap.size ≤ b := (h2.apart i o g b x4 a1 x3 hb).2.2 (Nat.zero_le _)
     omega
    ·exact h2.dis i j o o' g g' b x4 y4 hij a1 a2 x3 y3 hb
  os := h2.os.trans hS.os
  tape := h2.tape.trans hS.tape
  output := h2.output.trans hS.output
  grows := Nat.le_trans hS.grows h2.grows
  block := fun k hk hg => (hold k (Nat.lt_of_lt_of_le hk hS.grows)).trans (hS.block k hk hg) }
theorem tr_callT {Q : Exit → Act → World → Prop} {E1 E2 : Env} {H1 H2 : List O} {l : List Oper} {id : Nat} {vc1 vc2} {o : Oper} {f : FuncId} {args : Array Operand} {tys : Array TypeId} {t : Nat} (n : Nat) (tg : Nat → Nat) (hs hs2 : List (Nat × D)) (us ts : List Nat)
  (h1 : (runT C.P C.γ0.length C.N l.toArray hs [] tg 0 (l.take n) E H).bind (fun q => (proj q.2.1 us).map fun e => (q.1, e, q.2.2)) = some (vc1, E1, H1)) (hvc1 : all vc1)
  (hn : l[n]? = some o) (ho : o.op = .call ⟨.value (.func f), args, tys⟩) (hgd : o.guard = none) (hd : o.dst = some t) (hf : callable C.P f = true)
  (hcall : ∀ a w, SL C E1 H1 a w → Calls C.P f (args.map a.eval) w fun e w' => ∃ v, e = .returned v ∧ SL C E2 H2 (a.put (some t) v) w')
  (h2 : (runT C.P C.γ0.length C.N l.toArray hs2 [] tg (n + 1) (l.drop (n + 1)) E2 H2).bind (fun q => (proj q.2.1 ts).map fun e => (q.1, e, q.2.2)) = some (vc2, E', H')) (hvc2 : all vc2)
  (hk : ∀ a w, SL C E' H' a w → Q .normal a w) : Tr C (.region id l.toArray false) E H Q := fun a w hS => by
 refine wp_region_lit ?_
 cases hr : runT C.P C.γ0.length C.N l.toArray hs [] tg 0 (l.take n) E H with
 | none => rw [hr] at h1; cases h1
 | some q =>
 obtain ⟨va, Ea, Ha⟩ := q
 rw [hr] at h1
 simp only [Option.bind_some, Option.map_eq_some_iff, Prod.mk.injEq] at h1
 obtain ⟨ea, hea, rfl, rfl, rfl⟩ := h1
 cases hr2 : runT C.P C.γ0.length C.N l.toArray hs2 [] tg (n + 1) (l.drop (n + 1)) E2 H2 with
 | none => rw [hr2] at h2; cases h2
 | some q =>
 obtain ⟨vb, Eb, Hb⟩ := q
 rw [hr2] at h2
 simp only [Option.bind_some, Option.map_eq_some_iff, Prod.mk.injEq] at h2
 obtain ⟨eb, heb, rfl, rfl, rfl⟩ := h2
 have hdr : l.drop n = o :: l.drop (n + 1) := by
  obtain ⟨hlt, hget⟩ := List.getElem?_eq_some_iff.1 hn
  rw [List.drop_eq_getElem_cons hlt, hget]
 have key : wpList C.P l.toArray Q (l.take n ++ l.drop n) a w := by
  refine runT_list hS hr hvc1 fun a1 w1 h1 => ?_
  rw [hdr]
  have hw : Region.wanted o (yielded l.toArray a1.tmps) = true := by simp [Region.wanted, hgd]
  unfold wpList
  rw [if_pos hw]
  refine .inl ?_
  unfold Oper.wp
  rw [resolve_call ho rfl hf w1]
  refine (hcall a1 w1 (sl_proj hea h1)).mono ?_
  rintro e w2 ⟨v, rfl, h2⟩
  rw [← hd] at h2
  have := runT_list (Q := Q) (rest := []) h2 hr2 hvc2 fun a' w' h' => hk a' w' (sl_proj heb h')
  rwa [List.append_nil] at this
 rwa [List.take_append_drop] at key
theorem slh_pub (h0 : C.γ0 = []) (S : Nat → Prop) (hS : SLH C F γ H w) : ∃ F' : PHeap, (∀ b c, F b = some c → F' b = some c) ∧
  (∀ i o g b c T z, S i → H[i]? = some o → o.alive = true → γ i = some g → blk g = some b → w.heap[b]? = some (.cells c T z) → F' b = some c) ∧
  ∀ (ρ : Nat → Nat) (H' : List O), (∀ i j o o', H'[i]? = some o → H'[j]? = some o' → o.alive = true → o'.alive = true → ρ i = ρ j → i = j) →
   (∀ i o', H'[i]? = some o' → o' ≠ .free → ∃ o, H[ρ i]? = some o ∧ (o'.alive = true → o.alive = true ∧ ¬ S (ρ i)) ∧ ∀ g, γ (ρ i) = some g → RelO F' (permG H' ρ γ) w o' g) → SLH C F' (permG H' ρ γ) H' w := by
 classical
 let cond : Nat → Prop := fun b => ∃ i o g, S i ∧ H[i]? = some o ∧ o.alive = true ∧ γ i = some g ∧ blk g = some b
 let F' : PHeap := fun b => if cond b then (match w.heap[b]? with
  | some (.cells c _ _) => some c
  | _ => none) else F b
 have hno : ∀ b, cond b → F b = none ∧ b < w.heap.size ∧ C.w0.heap.size ≤ b := by
  rintro b ⟨i, o, g, _, h2, h3, h4, h5⟩
  obtain ⟨a1, a2, a3⟩ := hS.apart i o g b h2 h3 h4 h5
  exact ⟨a1, a2, a3 (by rw [h0]; exact Nat.zero_le _)⟩
 have hneg : ∀ b, ¬ cond b → F' b = F b := fun b hb => by simp only [F']; rw [if_neg hb]
 refine ⟨F', fun b c hb => ?_, fun i o g b c T z s1 s2 s3 s4 s5 s6 => ?_, fun ρ H' hinj hobj => ?_⟩
 ·rw [hneg]
  ·exact hb
  ·intro h
   rw [(hno b h).1] at hb
   cases hb
 ·have : cond b := ⟨i, o, g, s1, s2, s3, s4, s5⟩
  simp only [F']
  rw [if_pos this, s6]
 ·exact {
   sub := fun b c hb => by
    by_cases h : cond b
    ·simp only [F'] at hb
     rw [if_pos h] at hb
     split at hb
     ·rename_i c' T z hc
      cases hb
      exact ⟨T, z, hc⟩
     ·cases hb
    ·rw [hneg b h] at hb
     exact hS.sub b c hb
   ext := fun b hb => by
    rw [hneg]
    ·exact hS.ext b hb
    ·intro h
     have := (hno b h).2.2
     omega
   top := fun i hi => by unfold permG; rw [List.getElem?_eq_none hi]
   free := fun i hi => by unfold permG; rw [hi]
   obj := fun i o' g ho hg => by
    obtain ⟨⟨o1, h1, h2⟩, h3⟩ := permG_some hg
    rw [ho] at h1
    cases h1
    obtain ⟨o, e1, _, e3⟩ := hobj i o' ho h2
    exact e3 g h3
   apart := fun i o' g b ho ha hg hb => by
    obtain ⟨⟨o1, h1, h2⟩, h3⟩ := permG_some hg
    rw [ho] at h1
    cases h1
    obtain ⟨o, e1, e2, _⟩ := hobj i o' ho h2
    obtain ⟨q1, q2, q3⟩ := hS.apart _ o g b e1 (e2 ha).1 h3 hb
    refine ⟨?_, q2, fun _ => q3 (by rw [h0]; exact Nat.zero_le _)⟩
    rw [hneg]
    ·exact q1
    ·rintro ⟨i2, o2, g2, t1, t2, t3, t4, t5⟩
     exact hS.dis i2 (ρ i) o2 o g2 g b t2 e1 (fun e => (e2 ha).2 (e ▸ t1)) t3 (e2 ha).1 t4 h3 t5 hb
   given := fun i hi => by rw [h0] at hi; simp at hi
   dis := fun i j o o' g g' b h1 h2 hij a1 a2 k1 k2 hb => by
    obtain ⟨⟨o1, x1, x2⟩, x3⟩ := permG_some k1
    obtain ⟨⟨o2, y1, y2⟩, y3⟩ := permG_some k2
    rw [h1] at x1; cases x1
    rw [h2] at y1; cases y1
    obtain ⟨p, e1, e2, _⟩ := hobj i o h1 x2
    obtain ⟨p', f1, f2, _⟩ := hobj j o' h2 y2
    exact hS.dis _ _ p p' g g' b e1 f1 (fun e => hij (hinj i j o o' h1 h2 a1 a2 e)) (e2 a1).1 (f2 a2).1 x3 y3 hb
   os := hS.os
   tape := hS.tape
   output := hS.output
   grows := hS.grows
   block := hS.block }
theorem rest_arr {S : Nat → Prop} (hge : ∀ b c, F b = some c → F' b = some c) (hpub : ∀ i o g b c T z, S i → H[i]? = some o → o.alive = true → γ i = some g → blk g = some b → w.heap[b]? = some (.cells c T z) → F' b = some c)
  (hS : SLH C F γ H w) {e sz n i : Nat} {f : Nat → D} {g : Nat → PV} {v : Value} (hSi : S i) (hi : H[i]? = some (.arr e sz n f)) (hv : γ i = some v) (hf : ∀ j, j < n → ∀ cs, RelD F γ (f j) cs → RelP F' (g j) cs) : RelP F' (.lst sz n g) [v] := by
 have hO := hS.obj i _ v hi hv
 have hp := fun b c T z hb hc => hpub i _ v b c T z hSi hi rfl hv hb hc
 cases hO with
 | arr0 => exact .lst0
 | @arr _ _ _ _ b cap c k1 k2 k3 k4 k5 =>
  refine .lst (b := b) (off := 0) (c := c) (hp b c _ _ rfl k1) k2 (by rw [k4, Nat.zero_add]; exact Nat.mul_le_mul_right _ k2) fun j hj => ?_
  rw [Nat.zero_add]
  exact hf j hj _ (k5 j hj)
end
end Go.Eng
namespace Go.Proofs.Ytjnjmnfacaakfaa
open Go.Eng
def rowI (l : Lang) (i0 : Nat) : O := if i0 < numc l then oL 3 eI 1 0 (rowc l i0) else .dead
def restC (l : Lang) (i0 : Nat) : List O := (List.range (numc l)).map fun j => if j = i0 then .dead else oL 3 eI 1 0 (rowc l j)
def ansT (l : Lang) (i0 : Nat) : List O :=
 oL 4 eB 1 false (accc l) :: .arr 22 1 (numc l) (fun j => .own (bif Nat.beq j i0 then 5 else j + 8)) :: rowI l i0 :: .free :: .free :: restC l i0
def rhoA (n i0 : Nat) : Nat → Nat := fun i => if i = 3 then 3 else if i = 4 then 4 else if i = 5 then (if i0 < n then i0 + 10 else 0) else i + 2
theorem restC_get {l : Lang} {i0 j : Nat} {o : O} (h : (restC l i0)[j]? = some o) : j < numc l ∧ o = if j = i0 then .dead else oL 3 eI 1 0 (rowc l j) := by
 unfold restC at h
 rw [List.getElem?_map] at h
 by_cases hj : j < numc l
 ·rw [List.getElem?_range hj] at h
  exact ⟨hj, (Option.some.inj h).symm⟩
 ·rw [List.getElem?_eq_none (by simpa using hj)] at h
  cases h
theorem restC_at {l : Lang} {i0 j : Nat} (h : j < numc l) : (restC l i0)[j]? = some (if j = i0 then .dead else oL 3 eI 1 0 (rowc l j)) := by
 unfold restC
 rw [List.getElem?_map, List.getElem?_range h]; rfl
theorem cop_bring {C : Cx} {F : PHeap} {γ : Gm} {w : World} {l : Lang} {z : D} (i0 : Nat) (h0 : C.γ0 = []) (hS : SLH C F γ (copH l z (numc l)) w) :
  SLH C F (permG (List.replicate 3 .free ++ ansT l i0) (rhoA (numc l) i0) γ) (List.replicate 3 .free ++ ansT l i0) w := by
 refine slh_perm (rhoA (numc l) i0) h0 (fun i j o o' hi hj ai aj e => ?_) (fun i o' hi hf => ?_) hS
 ·have no : ∀ {i o}, (List.replicate 3 O.free ++ ansT l i0)[i]? = some o → o.alive = true → i = 3 ∨ i = 4 ∨ (i = 5 ∧ i0 < numc l) ∨ (8 ≤ i ∧ i ≠ i0 + 8) := by
   intro i o hi ai
   match i, hi with
   | 0, hi => cases hi; cases ai
   | 1, hi => cases hi; cases ai
   | 2, hi => cases hi; cases ai
   | 3, _ => exact .inl rfl
   | 4, _ => exact .inr (.inl rfl)
   | 5, hi =>
    cases hi
    refine .inr (.inr (.inl ⟨rfl, ?_⟩))
    unfold rowI at ai
    by_cases h : i0 < numc l
    ·exact h
    ·rw [if_neg h] at ai; cases ai
   | 6, hi => cases hi; cases ai
   | 7, hi => cases hi; cases ai
   | i + 8, hi =>
    refine .inr (.inr (.inr ⟨by omega, fun e => ?_⟩))
    obtain ⟨_, rfl⟩ := restC_get (l := l) (i0 := i0) (j := i) hi
    rw [if_pos (by omega)] at ai
    cases ai
  have h1 := no hi ai
  have h2 := no hj aj
  unfold rhoA at e
  repeat' split at e
  all_goals omega
 ·match i, hi with
  | 0, hi => cases hi; exact absurd rfl hf
  | 1, hi => cases hi; exact absurd rfl hf
  | 2, hi => cases hi; exact absurd rfl hf
  | 3, hi => cases hi; exact ⟨_, rfl, id, fun F γ γ' w g _ hr => relO_flat flat_oL hr⟩
  | 4, hi =>
   cases hi
   refine ⟨_, rfl, id, fun F γ γ' w g hm hr => ?_⟩
   have el : ∀ j, j < numc l → ∀ cs, RelD F γ (.own (j + 10)) cs → RelD F γ' (.own (bif Nat.beq j i0 then 5 else j + 8)) cs := fun j hj cs h => by
    cases hb : Nat.beq j i0 with
    | true =>
     have := Nat.eq_of_beq_eq_true hb
     subst this
     have hmj := hm 5 (rowI l j) rfl (by unfold rowI; rw [if_pos hj]; unfold oL; simp)
     rw [show rhoA (numc l) j 5 = j + 10 by unfold rhoA; rw [if_neg (by omega), if_neg (by omega), if_pos rfl, if_pos hj]] at hmj
     cases h with | own e1 o1 => exact .own (hmj.trans e1) o1
    | false =>
     have hne : j ≠ i0 := fun e => by subst e; rw [Nat.beq_refl] at hb; cases hb
     have hmj := hm (j + 8) _ (show (List.replicate 3 O.free ++ ansT l i0)[j + 8]? = _ from restC_at hj) (by rw [if_neg hne]; unfold oL; simp)
     have e8 : rhoA (numc l) i0 (j + 8) = j + 10 := by unfold rhoA; rw [if_neg (by omega), if_neg (by omega), if_neg (by omega)]
     rw [e8] at hmj
     cases h with | own e1 o1 => exact .own (hmj.trans e1) o1
   generalize hn : numc l = n at hr el
   cases hr with
   | arr0 => exact .arr0
   | arr k1 k2 k3 k4 k5 => exact .arr k1 k2 k3 k4 fun j hj => el j hj _ (k5 j hj)
  | 5, hi =>
   cases hi
   unfold rowI at hf ⊢
   by_cases hi0 : i0 < numc l
   ·rw [if_pos hi0]
    refine ⟨oL 3 eI 1 0 (rowc l i0), ?_, id, fun F γ γ' w g _ hr => relO_flat flat_oL hr⟩
    rw [show rhoA (numc l) i0 5 = i0 + 10 by unfold rhoA; rw [if_neg (by omega), if_neg (by omega), if_pos rfl, if_pos hi0]]
    exact rowsC_at hi0
   ·rw [if_neg hi0]
    refine ⟨.box (.p (eLang l)), ?_, fun _ => rfl, fun F γ γ' w g _ hr => .dead⟩
    rw [show rhoA (numc l) i0 5 = 0 by unfold rhoA; rw [if_neg (by omega), if_neg (by omega), if_pos rfl, if_neg hi0]]
    rfl
  | 6, hi => cases hi; exact absurd rfl hf
  | 7, hi => cases hi; exact absurd rfl hf
  | i + 8, hi =>
   obtain ⟨hik, rfl⟩ := restC_get (l := l) (i0 := i0) (j := i) hi
   have e8 : rhoA (numc l) i0 (i + 8) = i + 10 := by unfold rhoA; rw [if_neg (by omega), if_neg (by omega), if_neg (by omega)]
   refine ⟨oL 3 eI 1 0 (rowc l i), by rw [e8]; exact rowsC_at hik, fun _ => rfl, fun F γ γ' w g _ hr => ?_⟩
   split
   ·exact .dead
   ·exact relO_flat flat_oL hr
theorem cop_call {C : Cx} {E1 : Env} {a : Act} {w : World} {H1 : List O} {l : Lang} (hP : C.P = Try.prog) (h0 : C.γ0 = []) (hN : dstOk C.N (some 31) = true) (h3 : H1.length = 3) (h30 : E1.get 30 = some (none, .p (eLang l))) (i0 : Nat) (hS : SL C E1 H1 a w) :
  Calls C.P 18 (#[Operand.tmp 30].map a.eval) w fun e w' => ∃ v, e = .returned v ∧ SL C ((31, none, .agg [.own 3, .own 4]) :: E1) (H1 ++ ansT l i0) (a.put (some 31) v) w' := by
 obtain ⟨⟨F, γ, h1, h2⟩, h4, h5⟩ := hS
 obtain ⟨u, u1, u2⟩ := (h2 30 none _ h30).1 trivial
 have hu : RelV F noG (.p (eLang l)) u := relV_nog u2
 rw [hP, show (#[Operand.tmp 30].map a.eval) = [u].toArray by simp [eval_tmp u1]]
 refine (copied_new l F w [u] h1.sub rfl fun i p v hp hv => ?_).mono ?_
 ·match i with
  | 0 => cases hp; cases hv; exact hu
 ·rintro e w' ⟨v, F', γ', rfl, k1, k2⟩
  have k3 := cop_bring i0 rfl k1
  have k4 := slh_join h0 h3 h1 k3
  have hge : ∀ b c, F b = some c → F' b = some c := fun b c hb => by rw [k1.ext b (sub_lt h1 hb)]; exact hb
  have hγ : ∀ (i : Nat) g, γ i = some g → joinG 3 γ (permG (List.replicate 3 .free ++ ansT l i0) (rhoA (numc l) i0) γ') i = some g := fun i g h => by
   unfold joinG
   rw [if_pos]
   ·exact h
   ·rcases Nat.lt_or_ge i 3 with h1' | h1'
    ·exact h1'
    ·rw [h1.top i (by omega)] at h; cases h
  refine ⟨v, rfl, ⟨F', _, k4, ?_⟩, by rw [put_size]; exact h4, by rw [put_defers]; exact h5⟩
  refine sle_put (dst := some 31) (e := none) (sle_mono h2 hge hγ) h4 hN (fun _ => ?_) (fun h => absurd trivial h)
  cases k2 with
  | one hm => cases hm
  | many hm h =>
   refine .many rfl ?_
   cases h with
   | cons a b => cases a with
    | own e1 o1 => cases b with
     | cons c d => cases c with
      | own e2 o2 => cases d with
       | nil => exact .cons (.own e1 o1) (.cons (.own e2 o2) .nil)
end Go.Proofs.Ytjnjmnfacaakfaa
namespace Go.Proofs.Ytjnjmnfacaakfaa
open Go.Eng
def ansH (b0 b1 b2 : O) (l : Lang) (i0 : Nat) (R : O) : List O :=
 b0 :: b1 :: b2 :: oL 4 eB 1 false (accc l) :: .arr 22 1 (numc l) (fun j => .own (bif Nat.beq j i0 then 5 else j + 8)) :: R :: .box (.agg [.own 3, .own 4]) :: .free :: restC l i0
def oddL (l : Lang) (i0 : Nat) (r : List Int) : Lang := { Accept := accc l, Next := (List.range (numc l)).map fun j => if j = i0 then r else rowc l j }
theorem oddL_len {l : Lang} {i0 : Nat} {r : List Int} : (oddL l i0 r).Next.length = numc l := by simp [oddL]
theorem oddL_row {l : Lang} {i0 : Nat} {r : List Int} {j : Nat} (h : j < numc l) : (oddL l i0 r).Next.getD j [] = if j = i0 then r else rowc l j := by
 simp [oddL, List.getD_eq_getElem?_getD, List.getElem?_map, List.getElem?_range h]
def Slot (d d' : D) : Prop := (d' = d ∧ ((∃ p, d = .p p) ∨ d = .ref 0 [] ∨ d = .ref 1 [] ∨ d = .ref 2 [])) ∨ (d = .ref 6 [] ∧ d' = .ref 3 [])
theorem ans_pub {C : Cx} {E E' : Env} {a : Act} {w : World} {b0 b1 b2 R : O} {l : Lang} {i0 : Nat} (h0 : C.γ0 = []) (f0 : flat b0) (f1 : flat b1) (f2 : flat b2) (r : List Int) (hR : i0 < numc l → R = oL 3 eI 1 0 r)
  (hE : ∀ t g d', E'.get t = some (g, d') → g = none ∧ ∃ d, E.get t = some (none, d) ∧ Slot d d') (hS : SL C E (ansH b0 b1 b2 l i0 R) a w) : SL C E' [b0, b1, b2, .box (.p (eLang (oddL l i0 r)))] a w := by
 obtain ⟨⟨F, γ, h1, h2⟩, h3, h4⟩ := hS
 obtain ⟨F', hge, hpub, hk⟩ := slh_pub h0 (fun i => i = 3 ∨ i = 4 ∨ i = 5 ∨ 8 ≤ i) h1
 let ρ : Nat → Nat := fun i => if i = 3 then 6 else i
 have hnf : ∀ {o : O}, flat o → o ≠ .free := fun h e => by subst e; exact h
 have al : ∀ {o o' : O}, (o.alive = true) → o.alive = true := fun h => h
 have flatR : ∀ {o g}, flat o → ∀ {γ' : Gm}, RelO F γ w o g → RelO F' γ' w o g := fun hf _ hr => relO_flat hf (hr.mono hge fun _ _ h => h)
 have acc : ∀ g, γ 3 = some g → RelP F' (eL eB 1 false (accc l)) [g] := fun g hg =>
  rest_arr (i := 3) (n := (accc l).length) (f := fun i => .p (eB ((accc l).getD i false))) hge hpub h1 (.inl rfl) rfl hg fun j _ cs h => by cases h with | p h => exact h.mono hge
 have row : ∀ (i : Nat) (x : List Int) g, (i = 3 ∨ i = 4 ∨ i = 5 ∨ 8 ≤ i) → (ansH b0 b1 b2 l i0 R)[i]? = some (oL 3 eI 1 0 x) → γ i = some g → RelP F' (eL eI 1 0 x) [g] := fun i x g hi hH hg =>
  rest_arr (i := i) (n := x.length) (f := fun i => .p (eI (x.getD i 0))) hge hpub h1 hi hH hg fun j _ cs h => by cases h with | p h => exact h.mono hge
 have out : ∀ g, γ 4 = some g → RelP F' (eL (eL eI 1 0) 1 [] (oddL l i0 r).Next) [g] := fun g hg => by
  have := rest_arr (i := 4) (n := numc l) (f := fun j => .own (bif Nat.beq j i0 then 5 else j + 8)) (g := fun j => eL eI 1 0 ((oddL l i0 r).Next.getD j [])) hge hpub h1 (.inr (.inl rfl)) rfl hg fun j hj cs h => by
   rw [oddL_row hj]
   cases hb : Nat.beq j i0 with
   | true =>
    have := Nat.eq_of_beq_eq_true hb
    subst this
    rw [Nat.beq_refl] at h
    rw [if_pos rfl]
    cases h with
    | own e1 o1 => exact row 5 r _ (.inr (.inr (.inl rfl))) (by show some R = _; rw [hR hj]) e1
   | false =>
    rw [hb] at h
    have hne : j ≠ i0 := fun e => by subst e; rw [Nat.beq_refl] at hb; cases hb
    rw [if_neg hne]
    cases h with
    | own e1 o1 =>
     refine row (j + 8) (rowc l j) _ (.inr (.inr (.inr (by omega)))) ?_ e1
     show (restC l i0)[j]? = _
     rw [restC_at hj, if_neg hne]
  rw [← oddL_len (l := l) (i0 := i0) (r := r)] at this
  exact this
 have hH := hk ρ [b0, b1, b2, .box (.p (eLang (oddL l i0 r)))] (fun i j o o' hi hj _ _ e => by
  have q1 := (List.getElem?_eq_some_iff.1 hi).1
  have q2 := (List.getElem?_eq_some_iff.1 hj).1
  simp only [List.length_cons, List.length_nil] at q1 q2
  simp only [ρ] at e
  repeat' split at e
  all_goals omega) (fun i o' hi hf => by
  match i, hi with
  | 0, hi => cases hi; exact ⟨_, rfl, fun h => ⟨h, by simp [ρ]⟩, fun g hg => flatR f0 (h1.obj 0 _ g rfl hg)⟩
  | 1, hi => cases hi; exact ⟨_, rfl, fun h => ⟨h, by simp [ρ]⟩, fun g hg => flatR f1 (h1.obj 1 _ g rfl hg)⟩
  | 2, hi => cases hi; exact ⟨_, rfl, fun h => ⟨h, by simp [ρ]⟩, fun g hg => flatR f2 (h1.obj 2 _ g rfl hg)⟩
  | 3, hi =>
   cases hi
   refine ⟨_, rfl, fun _ => ⟨rfl, by simp [ρ]⟩, fun g hg => ?_⟩
   have hr := h1.obj 6 _ g rfl hg
   cases hr with
   | @box _ b c T k1 k2 =>
    refine .box k1 (.p ?_)
    generalize c.toList = cs at k2
    cases k2 with
    | cons x1 x2 => cases x1 with
     | own e1 o1 => cases x2 with
      | cons y1 y2 => cases y1 with
       | own e2 o2 => cases y2; exact .cons (acc _ e1) (.cons (out _ e2) .nil)
  | i + 4, hi => simp at hi)
 refine ⟨⟨F', _, hH, fun t g d' hg => ?_⟩, h3, h4⟩
 obtain ⟨rfl, d, e1, e2⟩ := hE t g d' hg
 obtain ⟨v, q1, q2⟩ := (h2 t none d e1).1 trivial
 refine ⟨fun _ => ⟨v, q1, ?_⟩, fun hn => absurd trivial hn⟩
 have q2 : RelV F' γ d v := q2.mono hge fun _ _ h => h
 have tref : ∀ i j, permG [b0, b1, b2, .box (.p (eLang (oddL l i0 r)))] ρ γ j = γ i → RelV F' γ (.ref i []) v → RelV F' (permG [b0, b1, b2, .box (.p (eLang (oddL l i0 r)))] ρ γ) (.ref j []) v := fun i j hh hr => by
  cases hr with
  | many hm => cases hm
  | one _ hr => cases hr with | ref x1 x2 => exact .one rfl (.ref (hh.trans x1) x2)
 rcases e2 with ⟨rfl, ⟨p, rfl⟩ | rfl | rfl | rfl⟩ | ⟨rfl, rfl⟩
 ·cases q2 with
  | one q h => cases h with | p h => exact .one q (.p h)
  | many q h => cases h with | p h => exact .many q (.p h)
 ·exact tref 0 0 (permG_moved 0 b0 rfl (hnf f0)) q2
 ·exact tref 1 1 (permG_moved 1 b1 rfl (hnf f1)) q2
 ·exact tref 2 2 (permG_moved 2 b2 rfl (hnf f2)) q2
 ·exact tref 6 3 (permG_moved 3 _ rfl (by simp)) q2
end Go.Proofs.Ytjnjmnfacaakfaa
namespace Go.Proofs.Ytjnjmnfacaakfaa
open Go.Eng
theorem take_app {α : Type} (m : Nat) (A B : List α) : (A ++ B).take m = A.take m ++ B.take (m - (A.take m).length) := by
 rw [List.take_append, List.length_take]
 by_cases h : A.length ≤ m
 ·rw [Nat.min_eq_right h]
 ·rw [Nat.min_eq_left (by omega), show m - A.length = 0 by omega, show m - m = 0 by omega]
theorem take_ext {l : Lang} {rec : Nat → List UInt8 → List (List UInt8)} {q : Nat} {p : List UInt8} {c : Nat} {m : Int} (hm : 0 ≤ m) (h : 0 ≤ (l.Next.getD q []).getD c 0) :
  (extC l rec q p c).take m.toNat ++ (rec ((l.Next.getD q []).getD c 0).toNat (p ++ symAt c)).take (m - ((((extC l rec q p c).take m.toNat).length : Nat) : Int)).toNat = (extC l rec q p (c + 1)).take m.toNat := by
 rw [extC_yes h, take_app]
 congr 2
 omega
theorem extendStep_ok (l : Lang) (n : Nat) (q : Nat) (p : List UInt8) (m : Int) (hok : check l = 0) (hn : n ≤ 12) (hq : q < l.Accept.length) (hp : p.length + n ≤ 12) (hm : m ≤ 100) (ih : ∀ n' q' p' m', n' < n → q' < l.Accept.length → p'.length + n' ≤ 12 → m' ≤ 100 → Pure Try.prog 44 [eLang l, (eL (eL eB 1 false) 1 []) (leadsL l 12), .v (.int .i64 (q' : Int)), .s p', .v (.int .i64 (n' : Int)), .v (.int .i64 m')] (.p ((eL eS 1 []) ((extW l n' q' p').take m'.toNat)))) : Pure Try.prog 44 [eLang l, (eL (eL eB 1 false) 1 []) (leadsL l 12), .v (.int .i64 (q : Int)), .s p, .v (.int .i64 (n : Int)), .v (.int .i64 m)] (.p ((eL eS 1 []) ((extW l n q p).take m.toNat))) := by
 obtain ⟨f1, f2, f3, f4⟩ := check_facts hok
 have hrow := f4 q (by omega)
 have hrl := hrow.1
 have hll := leadsL_len (l := l) (n := 12)
 have hlg := leadsL_get (l := l) hn
 have hlr := leadR_len (l := l) n
 refine pure_of (fn := Try.f44) Try.func44 rfl rfl fun F_ W0_ => ?_
 refine tr_seq (q_t [1, 2, 3, 4, 5, 6] [.p ((eL (eL eB 1 false) 1 []) (leadsL l 12)), vint .i64 (q : Int), vstr p, vint .i64 (n : Int), vint .i64 m, .ref 0 []] [.box (.p (eLang l))] (tr_then (tr_seq (tr_seq (q_k [(0 : Int) ≤ (n : Int), (n : Int) < ((leadsL l 12).length : Int), (0 : Int) ≤ (q : Int), (q : Int) < (((leadsL l 12).getD n []).length : Int), (((leadsL l 12).getD n []).getD q false) = ((leadR l n).getD q false), (!(!((leadR l n).getD q false))) = true → (!(!((leadR l n).getD q false))) = true, (!(!((leadR l n).getD q false))) = true → (!(!((leadR l n).getD q false))) = true] [1, 2, 3, 4, 5, 6, 27] [.p ((eL (eL eB 1 false) 1 []) (leadsL l 12)), vint .i64 (q : Int), vstr p, vint .i64 (n : Int), vint .i64 m, .ref 0 [], vbool ((!((leadR l n).getD q false)) || (decide (m < 1)))] [(6, vbool ((leadR l n).getD q false))] [] (al (by omega) (al (by omega) (al (by omega) (al (by simp_all; done) (al (by simp_all; done) (al id (al id (trivial)))))))) (tr_then (q_c ((!((leadR l n).getD q false)) || (decide (m < 1))) ((((leadR l n).getD q false) = false) ∨ (m < 1)) (fun hc1 => ?_) (fun hc1 => ?_))))))))
 ·refine tr_seq (q_m [12] [.p (.v (.slice none 0 0))] (tr_then (tr_pre (E' := [(12, none, .p (.v (.slice none 0 0)))]) (H' := []) (fun _ _ h => q_w [] [12] h) (q_i (d := .p (.v (.slice none 0 0))) 12 (.p ((eL eS 1 []) ((extW l n q p).take m.toNat))) ?_ ?_))))
  ·refine imp_nil ((extW l n q p).take m.toNat) ?_
   exact hc1.elim (fun h => by rw [extW_no h, List.take_nil]) (fun h => by rw [show m.toNat = 0 by omega, List.take_zero])
  exact q_z [.p ((eL eS 1 []) ((extW l n q p).take m.toNat))] (fun _ _ h => h)
 ·refine tr_skip (tr_then (tr_seq (tr_seq (q_m [1, 2, 3, 4, 5, 6, 29] [.p ((eL (eL eB 1 false) 1 []) (leadsL l 12)), vint .i64 (q : Int), vstr p, vint .i64 (n : Int), vint .i64 m, .ref 0 [], vbool ((n : Int) == 0)] (tr_then (q_c ((n : Int) == 0) ((n : Int) = 0) (fun hc2 => ?_) (fun hc2 => ?_)))))))
  ·refine tr_seq (q_k [∀ j, j < 1 → ([.s p] : List PV).getD j default = (fun i => eS (([p]).getD i [])) j] [12] [.p ((eL eS 1 []) ([p]))] [] [(1, .p ((eL eS 1 []) ([p])))] (al (lit_pv (e := eS) (d := []) (l := [p])) (trivial)) (tr_then (tr_pre (E' := [(12, none, .p ((eL eS 1 []) ([p])))]) (H' := []) (fun _ _ h => q_w [] [12] h) (q_i (d := .p ((eL eS 1 []) ([p]))) 12 (.p ((eL eS 1 []) ((extW l n q p).take m.toNat))) ?_ ?_))))
   ·refine imp_eq (congrArg (fun x => D.p ((eL eS 1 []) x)) (a₁ := ([p])) (a₂ := ((extW l n q p).take m.toNat)) ?_)
    obtain rfl : n = 0 := (by omega); rw [extW_0 (eq_true_of_ne_false (not_or.1 hc1).1), List.take_of_length_le (by have := (not_or.1 hc1).2; simp only [List.length_cons, List.length_nil]; omega)]
   exact q_z [.p ((eL eS 1 []) ((extW l n q p).take m.toNat))] (fun _ _ h => h)
  ·refine tr_skip (tr_then (tr_seq (q_m [1, 2, 3, 4, 5, 6, 13] [.p ((eL (eL eB 1 false) 1 []) (leadsL l 12)), vint .i64 (q : Int), vstr p, vint .i64 (n : Int), vint .i64 m, .ref 0 [], .p (.v (.slice none 0 0))] (tr_then (tr_seq (tr_seq (q_m [1, 2, 3, 4, 5, 6, 13, 14] [.p ((eL (eL eB 1 false) 1 []) (leadsL l 12)), vint .i64 (q : Int), vstr p, vint .i64 (n : Int), vint .i64 m, .ref 0 [], .p (.v (.slice none 0 0)), vint .i64 0] (tr_then (tr_block (tr_loop (α := Nat × (List (List UInt8))) (fun z : Nat × (List (List UInt8)) => (fun (c : Nat) (o : List (List UInt8)) => [(1, none, .p ((eL (eL eB 1 false) 1 []) (leadsL l 12))), (2, none, vint .i64 (q : Int)), (3, none, vstr p), (4, none, vint .i64 (n : Int)), (5, none, vint .i64 m), (6, none, .ref 0 []), (13, none, .own 1), (14, none, vint .i64 (c : Int))]) z.1 z.2) (fun z : Nat × (List (List UInt8)) => (fun (c : Nat) (o : List (List UInt8)) => [.box (.p (eLang l)), oL 9 eS 1 [] o]) z.1 z.2) (fun z : Nat × (List (List UInt8)) => (fun (c : Nat) (o : List (List UInt8)) => (c ≤ 37) ∧ (o = ((extC l (extW l (n - 1)) q p c).take m.toNat))) z.1 z.2) (fun z : Nat × (List (List UInt8)) => (fun (c : Nat) (o : List (List UInt8)) => 37 - c) z.1 z.2) (0, ([] : List (List UInt8))) ?_ ?_ ?_))))))))))
   ·show (0 ≤ 37) ∧ (([] : List (List UInt8)) = ((extC l (extW l (n - 1)) q p 0).take m.toNat))
    refine ⟨?_, ?_⟩
    ·omega
    ·simp [extC]
   ·intro A_ W_ hS
    replace hS := sl_nil 13 9 1 (fun i => .p (eS (([] : List (List UInt8)).getD i []))) (by kernel_rfl) hS
    replace hS := q_a (d := vint .i64 0) 14 (vint .i64 ((0 : Nat) : Int)) (eqD_int (by omega)) hS
    exact q_v [∀ i, i < ([] : List (List UInt8)).length → D.p (eS (([] : List (List UInt8)).getD i [])) = .p (eS (([] : List (List UInt8)).getD i []))] [0, 1] [1, 2, 3, 4, 5, 6, 13, 14] (al (fun _ _ => rfl) trivial) hS
   ·intro z hz
    obtain ⟨c, o⟩ := z
    have hz : (c ≤ 37) ∧ (o = ((extC l (extW l (n - 1)) q p c).take m.toNat)) := hz
    obtain ⟨hi0_0, hi0_1⟩ := hz
    have hr2 := hrow.2 c
    have hsl := symAt_len c
    have htl : o.length ≤ m.toNat := by rw [hi0_1, List.length_take]; omega
    refine tr_seq (tr_seq (q_t [1, 2, 3, 4, 5, 6, 13, 14, 33] [.p ((eL (eL eB 1 false) 1 []) (leadsL l 12)), vint .i64 (q : Int), vstr p, vint .i64 (n : Int), vint .i64 m, .ref 0 [], .own 1, vint .i64 (c : Int), vbool (decide ((c : Int) < 37))] [.box (.p (eLang l)), oL 9 eS 1 [] o] (tr_then (q_e ((c : Int) < 37) (fun hc3 => ?_) (fun hc3 => ?_)))))
    ·refine tr_skip (tr_then (tr_seq (tr_block (tr_seq (q_k [(0 : Int) ≤ (q : Int), (q : Int) < (l.Next.length : Int), (0 : Int) ≤ (c : Int), (c : Int) < ((l.Next.getD q []).length : Int), ((l.Next.getD q []).getD c 0) = ((l.Next.getD q []).getD c 0)] [1, 2, 3, 4, 5, 6, 13, 14, 15] [.p ((eL (eL eB 1 false) 1 []) (leadsL l 12)), vint .i64 (q : Int), vstr p, vint .i64 (n : Int), vint .i64 m, .ref 0 [], .own 1, vint .i64 (c : Int), vint .i64 ((l.Next.getD q []).getD c 0)] [(8, vint .i64 ((l.Next.getD q []).getD c 0))] [] (al (by omega) (al (by omega) (al (by omega) (al (by omega) (al (by rfl) (trivial)))))) (tr_then (tr_seq (q_m [1, 2, 3, 4, 5, 6, 13, 14, 15, 45] [.p ((eL (eL eB 1 false) 1 []) (leadsL l 12)), vint .i64 (q : Int), vstr p, vint .i64 (n : Int), vint .i64 m, .ref 0 [], .own 1, vint .i64 (c : Int), vint .i64 ((l.Next.getD q []).getD c 0), vbool (decide (0 ≤ ((l.Next.getD q []).getD c 0)))] (tr_then (q_e (0 ≤ ((l.Next.getD q []).getD c 0)) (fun hc4 => ?_) (fun hc4 => ?_)))))))))))
     ·refine tr_dt (vc := [((l.Next.getD q []).getD c 0) = ((((l.Next.getD q []).getD c 0).toNat : Nat) : Int), Pure Try.prog 53 [] (vstr symbols), (IntKind.wrap .i64 ((c : Int) + 1)) = (((c + 1) : Nat) : Int), (0 : Int) ≤ (c : Int), (c : Int) ≤ (((c + 1) : Nat) : Int), (((c + 1) : Nat) : Int) ≤ (symbols.length : Int), ((p.length + ((symbols.drop c).take ((c + 1) - c)).length : Nat) : Int) ≤ 9223372036854775807, (p ++ ((symbols.drop c).take ((c + 1) - c))) = (p ++ symAt c), (IntKind.wrap .i64 ((n : Int) - 1)) = (((n - 1) : Nat) : Int), (IntKind.wrap .i64 (m - (o.length : Int))) = (m - (o.length : Int)), Pure Try.prog 44 [eLang l, (eL (eL eB 1 false) 1 []) (leadsL l 12), .v (.int .i64 ((((l.Next.getD q []).getD c 0).toNat : Nat) : Int)), .s (p ++ symAt c), .v (.int .i64 (((n - 1) : Nat) : Int)), .v (.int .i64 (m - (o.length : Int)))] (.p ((eL eS 1 []) ((extW l (n - 1) (((l.Next.getD q []).getD c 0).toNat) (p ++ symAt c)).take (m - (o.length : Int)).toNat))), (o.length + (((extW l (n - 1) (((l.Next.getD q []).getD c 0).toNat) (p ++ symAt c)).take (m - (o.length : Int)).toNat).length)) * 16 ≤ 140737488355328]) (E' := [(1, none, .p ((eL (eL eB 1 false) 1 []) (leadsL l 12))), (2, none, vint .i64 (q : Int)), (3, none, vstr p), (4, none, vint .i64 (n : Int)), (5, none, vint .i64 m), (6, none, .ref 0 []), (13, none, .own 2), (14, none, vint .i64 (c : Int))]) (H' := [.box (.p (eLang l)), .dead, .arr 9 1 (o.length + ((extW l (n - 1) (((l.Next.getD q []).getD c 0).toNat) (p ++ symAt c)).take (m - (o.length : Int)).toNat).length) (appF (fun i => .p (eS (o.getD i []))) o.length (fun j => .p (eS (((extW l (n - 1) (((l.Next.getD q []).getD c 0).toNat) (p ++ symAt c)).take (m - (o.length : Int)).toNat).getD j []))))]) 18 [(3, vint .i64 ((((l.Next.getD q []).getD c 0).toNat : Nat) : Int)), (8, vint .i64 (((c + 1) : Nat) : Int)), (10, vstr (p ++ symAt c)), (12, vint .i64 (((n - 1) : Nat) : Int)), (16, vint .i64 (m - (o.length : Int)))] [(5, vstr symbols), (17, .p ((eL eS 1 []) ((extW l (n - 1) (((l.Next.getD q []).getD c 0).toNat) (p ++ symAt c)).take (m - (o.length : Int)).toNat)))] [1, 2, 3, 4, 5, 6, 13, 14] (by kernel_rfl) (by kernel_rfl) (by kernel_rfl) ?_ ?_
      ·refine al (by omega) (al symbols_ok (al (wr64 (by omega) (by omega) (by omega)) (al (by omega) (al (by omega) (al ?_ (al (by simp_all; omega) (al (by rw [show (c + 1) - c = 1 by omega]; rfl) (al (wr64 (by omega) (by omega) (by omega)) (al (wr64 (by omega) (by omega) (by omega)) (al (ih _ _ _ _ (by omega) (by have := hr2 (by omega); omega) (by simp only [List.length_append]; omega) (by omega)) (al (by simp_all; omega) (trivial))))))))))))
       ·have hs37 : symbols.length = 37 := rfl; omega
      refine nm_pre (E' := [(1, none, .p ((eL (eL eB 1 false) 1 []) (leadsL l 12))), (2, none, vint .i64 (q : Int)), (3, none, vstr p), (4, none, vint .i64 (n : Int)), (5, none, vint .i64 m), (6, none, .ref 0 []), (13, none, .own 2), (14, none, vint .i64 (c : Int))]) (H' := [.box (.p (eLang l)), .dead, oL 9 eS 1 [] (o ++ ((extW l (n - 1) (((l.Next.getD q []).getD c 0).toNat) (p ++ symAt c)).take (m - (o.length : Int)).toNat))]) (fun _ _ => sl_arr (n := (o.length + ((extW l (n - 1) (((l.Next.getD q []).getD c 0).toNat) (p ++ symAt c)).take (m - (o.length : Int)).toNat).length)) (n' := (o ++ ((extW l (n - 1) (((l.Next.getD q []).getD c 0).toNat) (p ++ symAt c)).take (m - (o.length : Int)).toNat)).length) (f := appF (fun i => .p (eS (o.getD i []))) o.length (fun j => .p (eS (((extW l (n - 1) (((l.Next.getD q []).getD c 0).toNat) (p ++ symAt c)).take (m - (o.length : Int)).toNat).getD j [])))) 2 (fun i => .p (eS ((o ++ ((extW l (n - 1) (((l.Next.getD q []).getD c 0).toNat) (p ++ symAt c)).take (m - (o.length : Int)).toNat)).getD i []))) (by kernel_rfl) (by simp) (by first | exact appN | exact nilN | exact app0 | exact nilV _)) (in_n (tr_then (q_k [(IntKind.wrap .i64 ((c : Int) + 1)) = (((c + 1) : Nat) : Int)] [1, 2, 3, 4, 5, 6, 13, 14] [.p ((eL (eL eB 1 false) 1 []) (leadsL l 12)), vint .i64 (q : Int), vstr p, vint .i64 (n : Int), vint .i64 m, .ref 0 [], .own 2, vint .i64 (((c + 1) : Nat) : Int)] [(1, vint .i64 (((c + 1) : Nat) : Int))] [] (al (wr64 (by omega) (by omega) (by omega)) (trivial)) (lp_end ((c + 1), (o ++ ((extW l (n - 1) (((l.Next.getD q []).getD c 0).toNat) (p ++ symAt c)).take (m - (o.length : Int)).toNat))) ?_ ?_ ?_))))
      ·show ((c + 1) ≤ 37) ∧ ((o ++ ((extW l (n - 1) (((l.Next.getD q []).getD c 0).toNat) (p ++ symAt c)).take (m - (o.length : Int)).toNat)) = ((extC l (extW l (n - 1)) q p (c + 1)).take m.toNat))
       refine ⟨?_, ?_⟩
       ·omega
       ·rw [hi0_1]; first | exact take_ext (by omega) hc4 | (rw [extC_no hc4]; done)
      ·show 37 - (c + 1) < 37 - c
       omega
      ·intro A_ W_ hS
       exact q_v [∀ i, i < (o ++ ((extW l (n - 1) (((l.Next.getD q []).getD c 0).toNat) (p ++ symAt c)).take (m - (o.length : Int)).toNat)).length → D.p (eS ((o ++ ((extW l (n - 1) (((l.Next.getD q []).getD c 0).toNat) (p ++ symAt c)).take (m - (o.length : Int)).toNat)).getD i [])) = .p (eS ((o ++ ((extW l (n - 1) (((l.Next.getD q []).getD c 0).toNat) (p ++ symAt c)).take (m - (o.length : Int)).toNat)).getD i []))] [0, 2] [1, 2, 3, 4, 5, 6, 13, 14] (al (fun _ _ => rfl) trivial) hS
     ·refine tr_skip (in_n (tr_then (q_k [(IntKind.wrap .i64 ((c : Int) + 1)) = (((c + 1) : Nat) : Int)] [1, 2, 3, 4, 5, 6, 13, 14] [.p ((eL (eL eB 1 false) 1 []) (leadsL l 12)), vint .i64 (q : Int), vstr p, vint .i64 (n : Int), vint .i64 m, .ref 0 [], .own 1, vint .i64 (((c + 1) : Nat) : Int)] [(1, vint .i64 (((c + 1) : Nat) : Int))] [] (al (wr64 (by omega) (by omega) (by omega)) (trivial)) (lp_end ((c + 1), o) ?_ ?_ ?_))))
      ·show ((c + 1) ≤ 37) ∧ (o = ((extC l (extW l (n - 1)) q p (c + 1)).take m.toNat))
       refine ⟨?_, ?_⟩
       ·omega
       ·rw [hi0_1]; first | exact take_ext (by omega) hc4 | (rw [extC_no hc4]; done)
      ·show 37 - (c + 1) < 37 - c
       omega
      ·intro A_ W_ hS
       exact q_v [∀ i, i < o.length → D.p (eS (o.getD i [])) = .p (eS (o.getD i []))] [0, 1] [1, 2, 3, 4, 5, 6, 13, 14] (al (fun _ _ => rfl) trivial) hS
    ·refine tr_exit (th_e (th_e (in_hit (tr_then (tr_seq (tr_pre (E' := [(1, none, .p ((eL (eL eB 1 false) 1 []) (leadsL l 12))), (2, none, vint .i64 (q : Int)), (3, none, vstr p), (4, none, vint .i64 (n : Int)), (5, none, vint .i64 m), (6, none, .ref 0 []), (13, none, .p ((eL eS 1 []) o)), (14, none, vint .i64 (c : Int)), (33, none, vbool (decide ((c : Int) < 37)))]) (H' := [.box (.p (eLang l)), .dead]) (fun _ _ => sl_freeze (vc := [∀ j, j < o.length → D.p (eS (o.getD j [])) = .p ((fun j => eS (o.getD j [])) j)]) 1 (fun j => eS (o.getD j [])) (by kernel_rfl) (al (fun _ _ => rfl) trivial)) (q_m [12] [.p ((eL eS 1 []) o)] (tr_then (tr_pre (E' := [(12, none, .p ((eL eS 1 []) o))]) (H' := []) (fun _ _ h => q_w [] [12] h) (q_i (d := .p ((eL eS 1 []) o)) 12 (.p ((eL eS 1 []) ((extW l n q p).take m.toNat))) ?_ ?_))))))))))
     ·refine imp_eq (congrArg (fun x => D.p ((eL eS 1 []) x)) (a₁ := o) (a₂ := ((extW l n q p).take m.toNat)) ?_)
      rw [hi0_1, show c = 37 by omega, extW_s (eq_true_of_ne_false (not_or.1 hc1).1) (by omega)]
     exact q_z [.p ((eL eS 1 []) ((extW l n q p).take m.toNat))] (fun _ _ h => h)
theorem extend_ok (l : Lang) (hok : check l = 0) : ∀ (n q : Nat) (p : List UInt8) (m : Int), n ≤ 12 → q < l.Accept.length → p.length + n ≤ 12 → m ≤ 100 → Pure Try.prog 44 [eLang l, (eL (eL eB 1 false) 1 []) (leadsL l 12), .v (.int .i64 (q : Int)), .s p, .v (.int .i64 (n : Int)), .v (.int .i64 m)] (.p ((eL eS 1 []) ((extW l n q p).take m.toNat))) := by
 intro n
 induction n using Nat.strongRecOn with
 | ind n ih =>
  intro q p m hn hq hp hm
  exact extendStep_ok l n q p m hok hn hq hp hm fun n' q' p' m' h1 h2 h3 h4 => ih n' h1 q' p' m' (by omega) h2 h3 h4
end Go.Proofs.Ytjnjmnfacaakfaa
namespace Go.Proofs.Ytjnjmnfacaakfaa
open Go.Eng
def rowT (l : Lang) (prev : List Bool) (k : Nat) : List Bool := (List.range k).map fun q => orTo prev (l.Next.getD q []) 37
theorem rowT_len {l : Lang} {prev : List Bool} {k : Nat} : (rowT l prev k).length = k := by simp [rowT]
theorem rowT_s {l : Lang} {prev : List Bool} {k : Nat} : rowT l prev k ++ [orTo prev (l.Next.getD k []) 37] = rowT l prev (k + 1) := by
 unfold rowT
 rw [List.range_succ, List.map_append]
 rfl
theorem rowT_end {l : Lang} (hok : check l = 0) (n : Nat) : rowT l (leadR l n) l.Accept.length = leadR l (n + 1) := by
 obtain ⟨f1, f2, f3, f4⟩ := check_facts hok
 show rowT l (leadR l n) _ = rowC l (leadR l n) l.Next.length 0
 unfold rowT rowC
 refine List.map_congr_left fun q hq => ?_
 rw [List.mem_range] at hq
 rw [if_pos (by omega), (f4 q (by omega)).1]
theorem allC_take {l : Lang} {n : Nat} {m : Int} (hm : 0 ≤ m) : (allC l n).take m.toNat ++ (extW l n 0 []).take (m - ((((allC l n).take m.toNat).length : Nat) : Int)).toNat = (allC l (n + 1)).take m.toNat := by
 rw [show allC l (n + 1) = allC l n ++ extW l n 0 [] from rfl, take_app]
 congr 2
 omega
theorem refFirst_ok (l : Lang) (m : Int) : Pure Try.prog 24 [eLang l, .v (.int .i64 m)] (.p ((eL eS 1 []) (firstS l m))) := by
 refine pure_of (fn := Try.f24) Try.func24 rfl rfl fun F_ W0_ => ?_
 refine tr_seq (q_t [1, 2] [vint .i64 m, .ref 0 []] [.box (.p (eLang l))] (tr_then (tr_seq (tr_seq (q_k [Pure Try.prog 21 [eLang l] (vint .i64 (check l)), (!((check l) != 0)) = true → (!((check l) != 0)) = true, (!((check l) != 0)) = true → (!((check l) != 0)) = true] [1, 2, 19] [vint .i64 m, .ref 0 [], vbool (((check l) != 0) || (decide (m < 1)))] [] [(1, vint .i64 (check l))] (al (refCheck_ok _) (al id (al id (trivial)))) (tr_then (q_c (((check l) != 0) || (decide (m < 1))) (((check l) ≠ 0) ∨ (m < 1)) (fun hc1 => ?_) (fun hc1 => ?_))))))))
 ·refine tr_seq (q_m [4] [.p (.v (.slice none 0 0))] (tr_then (tr_pre (E' := [(4, none, .p (.v (.slice none 0 0)))]) (H' := []) (fun _ _ h => q_w [] [4] h) (q_i (d := .p (.v (.slice none 0 0))) 4 (.p ((eL eS 1 []) (firstS l m))) ?_ ?_))))
  ·refine imp_nil (firstS l m) ?_
   rw [firstS, if_pos hc1]
  exact q_z [.p ((eL eS 1 []) (firstS l m))] (fun _ _ h => h)
 ·refine tr_skip (tr_then (tr_seq (q_m [1, 2] [vint .i64 (min m 100), .ref 0 []] (tr_then (tr_seq (q_t [1, 2, 5] [vint .i64 (min m 100), .ref 0 [], .own 1] [.box (.p (eLang l)), .arr 29 1 1 (fun j => ([.p ((eL eB 1 false) l.Accept)] : List D).getD j default)] (nm_pre (E' := [(1, none, vint .i64 (min m 100)), (2, none, .ref 0 []), (5, none, .own 1)]) (H' := [.box (.p (eLang l)), oL 29 (eL eB 1 false) 1 [] ([l.Accept])]) (fun _ _ => sl_arr (n := 1) (n' := ([l.Accept]).length) (f := fun j => ([.p ((eL eB 1 false) l.Accept)] : List D).getD j default) 1 (fun i => .p ((eL eB 1 false) (([l.Accept]).getD i []))) (by kernel_rfl) (rfl) (by exact lit_getD (e := (eL eB 1 false)) (d := []) (l := [l.Accept]))) (tr_then (tr_seq (tr_seq (q_m [1, 2, 5, 6] [vint .i64 (min m 100), .ref 0 [], .own 1, vint .i64 1] (tr_then (tr_block (tr_loop (α := Nat) (fun z : Nat => (fun (n0 : Nat) => [(1, none, vint .i64 (min m 100)), (2, none, .ref 0 []), (5, none, .own 1), (6, none, vint .i64 (((n0 + 1) : Nat) : Int))]) z) (fun z : Nat => (fun (n0 : Nat) => [.box (.p (eLang l)), oL 29 (eL eB 1 false) 1 [] (leadsL l n0)]) z) (fun z : Nat => (fun (n0 : Nat) => (n0 ≤ 12)) z) (fun z : Nat => (fun (n0 : Nat) => 12 - n0) z) 0 ?_ ?_ ?_))))))))))))))
  ·show (0 ≤ 12)
   ·omega
  ·intro A_ W_ hS
   replace hS := q_a (d := vint .i64 1) 6 (vint .i64 (((0 + 1) : Nat) : Int)) (eqD_int (by omega)) hS
   replace hS := sl_arr (e := 29) (sz := 1) (n := ([l.Accept]).length) (n' := (leadsL l 0).length) (f := (fun i => .p ((eL eB 1 false) (([l.Accept]).getD i [])))) 1 (fun i => .p ((eL eB 1 false) ((leadsL l 0).getD i []))) (by kernel_rfl) (by rfl) (by intro j hj; rfl) hS
   exact q_v [∀ i, i < (leadsL l 0).length → D.p ((eL eB 1 false) ((leadsL l 0).getD i [])) = .p ((eL eB 1 false) ((leadsL l 0).getD i []))] [0, 1] [1, 2, 5, 6] (al (fun _ _ => rfl) trivial) hS
  ·intro z hz
   revert z; intro n0 hz
   have hz : (n0 ≤ 12) := hz
   have hi0_0 := hz
   have hok : check l = 0 := by omega
   obtain ⟨f1, f2, f3, f4⟩ := check_facts hok
   have hll := leadsL_len (l := l) (n := n0)
   have hlr := leadR_len (l := l) n0
   have hlg := leadsL_get (l := l) (Nat.le_refl n0)
   refine tr_seq (tr_seq (q_t [1, 2, 5, 6, 26] [vint .i64 (min m 100), .ref 0 [], .own 1, vint .i64 (((n0 + 1) : Nat) : Int), vbool (decide ((((n0 + 1) : Nat) : Int) ≤ 12))] [.box (.p (eLang l)), oL 29 (eL eB 1 false) 1 [] (leadsL l n0)] (tr_then (q_e ((((n0 + 1) : Nat) : Int) ≤ 12) (fun hc2 => ?_) (fun hc2 => ?_)))))
   ·refine tr_skip (tr_then (tr_seq (tr_block (tr_seq (q_m [1, 2, 5, 6, 7] [vint .i64 (min m 100), .ref 0 [], .own 1, vint .i64 (((n0 + 1) : Nat) : Int), .p (.v (.slice none 0 0))] (tr_then (tr_seq (tr_seq (q_m [1, 2, 5, 6, 7, 8] [vint .i64 (min m 100), .ref 0 [], .own 1, vint .i64 (((n0 + 1) : Nat) : Int), .p (.v (.slice none 0 0)), vint .i64 0] (tr_then (tr_block (tr_loop (α := Nat × (List Bool)) (fun z : Nat × (List Bool) => (fun (k : Nat) (rw_ : List Bool) => [(1, none, vint .i64 (min m 100)), (2, none, .ref 0 []), (5, none, .own 1), (6, none, vint .i64 (((n0 + 1) : Nat) : Int)), (7, none, .own 2), (8, none, vint .i64 (k : Int))]) z.1 z.2) (fun z : Nat × (List Bool) => (fun (k : Nat) (rw_ : List Bool) => [.box (.p (eLang l)), oL 29 (eL eB 1 false) 1 [] (leadsL l n0), oL 4 eB 1 false rw_]) z.1 z.2) (fun z : Nat × (List Bool) => (fun (k : Nat) (rw_ : List Bool) => (k ≤ l.Accept.length) ∧ (rw_ = rowT l (leadR l n0) k)) z.1 z.2) (fun z : Nat × (List Bool) => (fun (k : Nat) (rw_ : List Bool) => l.Accept.length - k) z.1 z.2) (0, ([] : List Bool)) ?_ ?_ ?_))))))))))))
    ·show (0 ≤ l.Accept.length) ∧ (([] : List Bool) = rowT l (leadR l n0) 0)
     refine ⟨?_, ?_⟩
     ·omega
     ·rfl
    ·intro A_ W_ hS
     replace hS := sl_nil 7 4 1 (fun i => .p (eB (([] : List Bool).getD i false))) (by kernel_rfl) hS
     replace hS := q_a (d := vint .i64 0) 8 (vint .i64 ((0 : Nat) : Int)) (eqD_int (by omega)) hS
     exact q_v [∀ i, i < (leadsL l n0).length → D.p ((eL eB 1 false) ((leadsL l n0).getD i [])) = .p ((eL eB 1 false) ((leadsL l n0).getD i [])), ∀ i, i < ([] : List Bool).length → D.p (eB (([] : List Bool).getD i false)) = .p (eB (([] : List Bool).getD i false))] [0, 1, 2] [1, 2, 5, 6, 7, 8] (al (fun _ _ => rfl) (al (fun _ _ => rfl) trivial)) hS
    ·intro z hz
     obtain ⟨k, rw_⟩ := z
     have hz : (k ≤ l.Accept.length) ∧ (rw_ = rowT l (leadR l n0) k) := hz
     obtain ⟨hi1_0, hi1_1⟩ := hz
     have hrow := f4 k
     have hrw : rw_.length = k := by rw [hi1_1, rowT_len]
     refine tr_seq (tr_seq (q_t [1, 2, 5, 6, 7, 8, 33] [vint .i64 (min m 100), .ref 0 [], .own 1, vint .i64 (((n0 + 1) : Nat) : Int), .own 2, vint .i64 (k : Int), vbool (decide ((k : Int) < (l.Accept.length : Int)))] [.box (.p (eLang l)), oL 29 (eL eB 1 false) 1 [] (leadsL l n0), oL 4 eB 1 false rw_] (tr_then (q_e ((k : Int) < (l.Accept.length : Int)) (fun hc3 => ?_) (fun hc3 => ?_)))))
     ·refine tr_skip (tr_then (tr_seq (tr_block (tr_seq (q_m [1, 2, 5, 6, 7, 8, 9] [vint .i64 (min m 100), .ref 0 [], .own 1, vint .i64 (((n0 + 1) : Nat) : Int), .own 2, vint .i64 (k : Int), vbool false] (tr_then (tr_seq (tr_seq (q_m [1, 2, 5, 6, 7, 8, 9, 10] [vint .i64 (min m 100), .ref 0 [], .own 1, vint .i64 (((n0 + 1) : Nat) : Int), .own 2, vint .i64 (k : Int), vbool false, vint .i64 0] (tr_then (tr_block (tr_loop (α := Nat) (fun z : Nat => (fun (c : Nat) => [(1, none, vint .i64 (min m 100)), (2, none, .ref 0 []), (5, none, .own 1), (6, none, vint .i64 (((n0 + 1) : Nat) : Int)), (7, none, .own 2), (8, none, vint .i64 (k : Int)), (9, none, vbool (orTo (leadR l n0) (l.Next.getD k []) c)), (10, none, vint .i64 (c : Int))]) z) (fun z : Nat => (fun (c : Nat) => [.box (.p (eLang l)), oL 29 (eL eB 1 false) 1 [] (leadsL l n0), oL 4 eB 1 false rw_]) z) (fun z : Nat => (fun (c : Nat) => (c ≤ 37)) z) (fun z : Nat => (fun (c : Nat) => 37 - c) z) 0 ?_ ?_ ?_))))))))))))
      ·show (0 ≤ 37)
       ·omega
      ·intro A_ W_ hS
       replace hS := q_a (d := vbool false) 9 (vbool (orTo (leadR l n0) (l.Next.getD k []) 0)) (eqD_bool (by rfl)) hS
       replace hS := q_a (d := vint .i64 0) 10 (vint .i64 ((0 : Nat) : Int)) (eqD_int (by omega)) hS
       exact q_v [∀ i, i < (leadsL l n0).length → D.p ((eL eB 1 false) ((leadsL l n0).getD i [])) = .p ((eL eB 1 false) ((leadsL l n0).getD i [])), ∀ i, i < rw_.length → D.p (eB (rw_.getD i false)) = .p (eB (rw_.getD i false))] [0, 1, 2] [1, 2, 5, 6, 7, 8, 9, 10] (al (fun _ _ => rfl) (al (fun _ _ => rfl) trivial)) hS
      ·intro z hz
       revert z; intro c hz
       have hz : (c ≤ 37) := hz
       have hi2_0 := hz
       have hw := (hrow (by omega)).1
       have hr2 := (hrow (by omega)).2 c
       refine tr_seq (tr_seq (q_t [1, 2, 5, 6, 7, 8, 9, 10, 37] [vint .i64 (min m 100), .ref 0 [], .own 1, vint .i64 (((n0 + 1) : Nat) : Int), .own 2, vint .i64 (k : Int), vbool (orTo (leadR l n0) (l.Next.getD k []) c), vint .i64 (c : Int), vbool (decide ((c : Int) < 37))] [.box (.p (eLang l)), oL 29 (eL eB 1 false) 1 [] (leadsL l n0), oL 4 eB 1 false rw_] (tr_then (q_e ((c : Int) < 37) (fun hc4 => ?_) (fun hc4 => ?_)))))
       ·refine tr_skip (tr_then (tr_seq (tr_block (q_d [(!(orTo (leadR l n0) (l.Next.getD k []) c)) = true → (!(orTo (leadR l n0) (l.Next.getD k []) c)) = true, (!(orTo (leadR l n0) (l.Next.getD k []) c)) = true → (!(orTo (leadR l n0) (l.Next.getD k []) c)) = true, (!(orTo (leadR l n0) (l.Next.getD k []) c)) = true → (!(orTo (leadR l n0) (l.Next.getD k []) c)) = true, (!(orTo (leadR l n0) (l.Next.getD k []) c)) = true → ((0 : Int) ≤ (k : Int)), (!(orTo (leadR l n0) (l.Next.getD k []) c)) = true → ((k : Int) < (l.Next.length : Int)), (!(orTo (leadR l n0) (l.Next.getD k []) c)) = true → (!(orTo (leadR l n0) (l.Next.getD k []) c)) = true, (!(orTo (leadR l n0) (l.Next.getD k []) c)) = true → (!(orTo (leadR l n0) (l.Next.getD k []) c)) = true, (!(orTo (leadR l n0) (l.Next.getD k []) c)) = true → (!(orTo (leadR l n0) (l.Next.getD k []) c)) = true, (!(orTo (leadR l n0) (l.Next.getD k []) c)) = true → ((0 : Int) ≤ (c : Int)), (!(orTo (leadR l n0) (l.Next.getD k []) c)) = true → ((c : Int) < ((l.Next.getD k []).length : Int)), (!(orTo (leadR l n0) (l.Next.getD k []) c)) = true → (!(orTo (leadR l n0) (l.Next.getD k []) c)) = true, (!(orTo (leadR l n0) (l.Next.getD k []) c)) = true → (!(orTo (leadR l n0) (l.Next.getD k []) c)) = true, (!(orTo (leadR l n0) (l.Next.getD k []) c)) = true → (!(orTo (leadR l n0) (l.Next.getD k []) c)) = true, ((!(orTo (leadR l n0) (l.Next.getD k []) c)) && (decide (0 ≤ ((l.Next.getD k []).getD c 0)))) = true → ((!(orTo (leadR l n0) (l.Next.getD k []) c)) && (decide (0 ≤ ((l.Next.getD k []).getD c 0)))) = true, ((!(orTo (leadR l n0) (l.Next.getD k []) c)) && (decide (0 ≤ ((l.Next.getD k []).getD c 0)))) = true → ((IntKind.wrap .i64 ((((n0 + 1) : Nat) : Int) - 1)) = (n0 : Int)), ((!(orTo (leadR l n0) (l.Next.getD k []) c)) && (decide (0 ≤ ((l.Next.getD k []).getD c 0)))) = true → ((!(orTo (leadR l n0) (l.Next.getD k []) c)) && (decide (0 ≤ ((l.Next.getD k []).getD c 0)))) = true, ((!(orTo (leadR l n0) (l.Next.getD k []) c)) && (decide (0 ≤ ((l.Next.getD k []).getD c 0)))) = true → ((!(orTo (leadR l n0) (l.Next.getD k []) c)) && (decide (0 ≤ ((l.Next.getD k []).getD c 0)))) = true, ((!(orTo (leadR l n0) (l.Next.getD k []) c)) && (decide (0 ≤ ((l.Next.getD k []).getD c 0)))) = true → ((0 : Int) ≤ (n0 : Int)), ((!(orTo (leadR l n0) (l.Next.getD k []) c)) && (decide (0 ≤ ((l.Next.getD k []).getD c 0)))) = true → ((n0 : Int) < ((leadsL l n0).length : Int)), ((!(orTo (leadR l n0) (l.Next.getD k []) c)) && (decide (0 ≤ ((l.Next.getD k []).getD c 0)))) = true → ((!(orTo (leadR l n0) (l.Next.getD k []) c)) && (decide (0 ≤ ((l.Next.getD k []).getD c 0)))) = true, ((!(orTo (leadR l n0) (l.Next.getD k []) c)) && (decide (0 ≤ ((l.Next.getD k []).getD c 0)))) = true → (n0 < (leadsL l n0).length), ((!(orTo (leadR l n0) (l.Next.getD k []) c)) && (decide (0 ≤ ((l.Next.getD k []).getD c 0)))) = true → (((leadsL l n0).getD n0 []).length = (leadR l n0).length ∧ ∀ j_, j_ < ((leadsL l n0).getD n0 []).length → eB (((leadsL l n0).getD n0 []).getD j_ false) = eB ((leadR l n0).getD j_ false)), ((!(orTo (leadR l n0) (l.Next.getD k []) c)) && (decide (0 ≤ ((l.Next.getD k []).getD c 0)))) = true → ((!(orTo (leadR l n0) (l.Next.getD k []) c)) && (decide (0 ≤ ((l.Next.getD k []).getD c 0)))) = true, ((!(orTo (leadR l n0) (l.Next.getD k []) c)) && (decide (0 ≤ ((l.Next.getD k []).getD c 0)))) = true → ((!(orTo (leadR l n0) (l.Next.getD k []) c)) && (decide (0 ≤ ((l.Next.getD k []).getD c 0)))) = true, ((!(orTo (leadR l n0) (l.Next.getD k []) c)) && (decide (0 ≤ ((l.Next.getD k []).getD c 0)))) = true → ((!(orTo (leadR l n0) (l.Next.getD k []) c)) && (decide (0 ≤ ((l.Next.getD k []).getD c 0)))) = true, ((!(orTo (leadR l n0) (l.Next.getD k []) c)) && (decide (0 ≤ ((l.Next.getD k []).getD c 0)))) = true → ((0 : Int) ≤ (k : Int)), ((!(orTo (leadR l n0) (l.Next.getD k []) c)) && (decide (0 ≤ ((l.Next.getD k []).getD c 0)))) = true → ((k : Int) < (l.Next.length : Int)), ((!(orTo (leadR l n0) (l.Next.getD k []) c)) && (decide (0 ≤ ((l.Next.getD k []).getD c 0)))) = true → ((!(orTo (leadR l n0) (l.Next.getD k []) c)) && (decide (0 ≤ ((l.Next.getD k []).getD c 0)))) = true, ((!(orTo (leadR l n0) (l.Next.getD k []) c)) && (decide (0 ≤ ((l.Next.getD k []).getD c 0)))) = true → ((!(orTo (leadR l n0) (l.Next.getD k []) c)) && (decide (0 ≤ ((l.Next.getD k []).getD c 0)))) = true, ((!(orTo (leadR l n0) (l.Next.getD k []) c)) && (decide (0 ≤ ((l.Next.getD k []).getD c 0)))) = true → ((!(orTo (leadR l n0) (l.Next.getD k []) c)) && (decide (0 ≤ ((l.Next.getD k []).getD c 0)))) = true, ((!(orTo (leadR l n0) (l.Next.getD k []) c)) && (decide (0 ≤ ((l.Next.getD k []).getD c 0)))) = true → ((0 : Int) ≤ (c : Int)), ((!(orTo (leadR l n0) (l.Next.getD k []) c)) && (decide (0 ≤ ((l.Next.getD k []).getD c 0)))) = true → ((c : Int) < ((l.Next.getD k []).length : Int)), ((!(orTo (leadR l n0) (l.Next.getD k []) c)) && (decide (0 ≤ ((l.Next.getD k []).getD c 0)))) = true → ((!(orTo (leadR l n0) (l.Next.getD k []) c)) && (decide (0 ≤ ((l.Next.getD k []).getD c 0)))) = true, ((!(orTo (leadR l n0) (l.Next.getD k []) c)) && (decide (0 ≤ ((l.Next.getD k []).getD c 0)))) = true → ((!(orTo (leadR l n0) (l.Next.getD k []) c)) && (decide (0 ≤ ((l.Next.getD k []).getD c 0)))) = true, ((!(orTo (leadR l n0) (l.Next.getD k []) c)) && (decide (0 ≤ ((l.Next.getD k []).getD c 0)))) = true → ((!(orTo (leadR l n0) (l.Next.getD k []) c)) && (decide (0 ≤ ((l.Next.getD k []).getD c 0)))) = true, ((!(orTo (leadR l n0) (l.Next.getD k []) c)) && (decide (0 ≤ ((l.Next.getD k []).getD c 0)))) = true → ((0 : Int) ≤ ((l.Next.getD k []).getD c 0)), ((!(orTo (leadR l n0) (l.Next.getD k []) c)) && (decide (0 ≤ ((l.Next.getD k []).getD c 0)))) = true → (((l.Next.getD k []).getD c 0) < ((leadR l n0).length : Int)), ((!(orTo (leadR l n0) (l.Next.getD k []) c)) && (decide (0 ≤ ((l.Next.getD k []).getD c 0)))) = true → ((!(orTo (leadR l n0) (l.Next.getD k []) c)) && (decide (0 ≤ ((l.Next.getD k []).getD c 0)))) = true, (!(orTo (leadR l n0) (l.Next.getD k []) c)) = true → ((!(orTo (leadR l n0) (l.Next.getD k []) c)) = true → (!(orTo (leadR l n0) (l.Next.getD k []) c)) = true), ((!(orTo (leadR l n0) (l.Next.getD k []) c)) && (decide (0 ≤ ((l.Next.getD k []).getD c 0)))) = true → ((!(orTo (leadR l n0) (l.Next.getD k []) c)) && (decide (0 ≤ ((l.Next.getD k []).getD c 0)))) = true, (!(orTo (leadR l n0) (l.Next.getD k []) c)) = true → (!(orTo (leadR l n0) (l.Next.getD k []) c)) = true] [1, 2, 5, 6, 7, 8, 9, 10] [vint .i64 (min m 100), .ref 0 [], .own 1, vint .i64 (((n0 + 1) : Nat) : Int), .own 2, vint .i64 (k : Int), vbool ((orTo (leadR l n0) (l.Next.getD k []) c) || ((decide (0 ≤ ((l.Next.getD k []).getD c 0))) && ((leadR l n0).getD (((l.Next.getD k []).getD c 0).toNat) false))), vint .i64 (c : Int)] [(14, vint .i64 (n0 : Int)), (16, .p ((eL eB 1 false) (leadR l n0)))] [] (al id (al id (al id (al (by omega) (al (by omega) (al id (al id (al id (al (by omega) (al (by omega) (al id (al id (al id (al id (al (by intro _; exact wr64 (by omega) (by omega) (by omega)) (al id (al id (al (by omega) (al (by omega) (al id (al (by omega) (al (by simp_all; done) (al id (al id (al id (al (by omega) (al (by omega) (al id (al id (al id (al (by omega) (al (by omega) (al id (al id (al id (al (by simp; done) (al (by omega) (al id (al (by intro _; exact id) (al id (al id (trivial)))))))))))))))))))))))))))))))))))))))))) (in_n (tr_then (q_k [(IntKind.wrap .i64 ((c : Int) + 1)) = (((c + 1) : Nat) : Int)] [1, 2, 5, 6, 7, 8, 9, 10] [vint .i64 (min m 100), .ref 0 [], .own 1, vint .i64 (((n0 + 1) : Nat) : Int), .own 2, vint .i64 (k : Int), vbool ((orTo (leadR l n0) (l.Next.getD k []) c) || ((decide (0 ≤ ((l.Next.getD k []).getD c 0))) && ((leadR l n0).getD (((l.Next.getD k []).getD c 0).toNat) false))), vint .i64 (((c + 1) : Nat) : Int)] [(1, vint .i64 (((c + 1) : Nat) : Int))] [] (al (wr64 (by omega) (by omega) (by omega)) (trivial)) (lp_end (c + 1) ?_ ?_ ?_))))))))
        ·show ((c + 1) ≤ 37)
         ·omega
        ·show 37 - (c + 1) < 37 - c
         omega
        ·intro A_ W_ hS
         replace hS := q_a (d := vbool ((orTo (leadR l n0) (l.Next.getD k []) c) || ((decide (0 ≤ ((l.Next.getD k []).getD c 0))) && ((leadR l n0).getD (((l.Next.getD k []).getD c 0).toNat) false)))) 9 (vbool (orTo (leadR l n0) (l.Next.getD k []) (c + 1))) (eqD_bool (by rfl)) hS
         exact q_v [∀ i, i < (leadsL l n0).length → D.p ((eL eB 1 false) ((leadsL l n0).getD i [])) = .p ((eL eB 1 false) ((leadsL l n0).getD i [])), ∀ i, i < rw_.length → D.p (eB (rw_.getD i false)) = .p (eB (rw_.getD i false))] [0, 1, 2] [1, 2, 5, 6, 7, 8, 9, 10] (al (fun _ _ => rfl) (al (fun _ _ => rfl) trivial)) hS
       ·refine tr_exit (th_e (th_e (in_hit (tr_then (q_r [∀ j, j < 1 → ([.v (.bool (orTo (leadR l n0) (l.Next.getD k []) c))] : List PV).getD j default = (fun i => eB (([(orTo (leadR l n0) (l.Next.getD k []) c)]).getD i false)) j, (rw_.length + (([(orTo (leadR l n0) (l.Next.getD k []) c)]).length)) * 1 ≤ 140737488355328] [1, 2, 5, 6, 7, 8] [vint .i64 (min m 100), .ref 0 [], .own 1, vint .i64 (((n0 + 1) : Nat) : Int), .own 3, vint .i64 (k : Int)] [.box (.p (eLang l)), oL 29 (eL eB 1 false) 1 [] (leadsL l n0), .dead, .arr 4 1 (rw_.length + ([(orTo (leadR l n0) (l.Next.getD k []) c)]).length) (appF (fun i => .p (eB (rw_.getD i false))) rw_.length (fun j => .p (eB (([(orTo (leadR l n0) (l.Next.getD k []) c)]).getD j false))))] [] [(2, .p ((eL eB 1 false) ([(orTo (leadR l n0) (l.Next.getD k []) c)])))] (al (lit_pv (e := eB) (d := false) (l := [(orTo (leadR l n0) (l.Next.getD k []) c)])) (al (by simp only [List.length_cons, List.length_nil]; omega) (trivial))) (nm_pre (E' := [(1, none, vint .i64 (min m 100)), (2, none, .ref 0 []), (5, none, .own 1), (6, none, vint .i64 (((n0 + 1) : Nat) : Int)), (7, none, .own 3), (8, none, vint .i64 (k : Int))]) (H' := [.box (.p (eLang l)), oL 29 (eL eB 1 false) 1 [] (leadsL l n0), .dead, oL 4 eB 1 false (rw_ ++ ([(orTo (leadR l n0) (l.Next.getD k []) c)]))]) (fun _ _ => sl_arr (n := (rw_.length + ([(orTo (leadR l n0) (l.Next.getD k []) c)]).length)) (n' := (rw_ ++ ([(orTo (leadR l n0) (l.Next.getD k []) c)])).length) (f := appF (fun i => .p (eB (rw_.getD i false))) rw_.length (fun j => .p (eB (([(orTo (leadR l n0) (l.Next.getD k []) c)]).getD j false)))) 3 (fun i => .p (eB ((rw_ ++ ([(orTo (leadR l n0) (l.Next.getD k []) c)])).getD i false))) (by kernel_rfl) (by simp) (by first | exact appN | exact nilN | exact app0 | exact nilV _)) (in_n (tr_then (q_k [(IntKind.wrap .i64 ((k : Int) + 1)) = (((k + 1) : Nat) : Int)] [1, 2, 5, 6, 7, 8] [vint .i64 (min m 100), .ref 0 [], .own 1, vint .i64 (((n0 + 1) : Nat) : Int), .own 3, vint .i64 (((k + 1) : Nat) : Int)] [(1, vint .i64 (((k + 1) : Nat) : Int))] [] (al (wr64 (by omega) (by omega) (by omega)) (trivial)) (lp_end ((k + 1), (rw_ ++ ([(orTo (leadR l n0) (l.Next.getD k []) c)]))) ?_ ?_ ?_))))))))))
        ·show ((k + 1) ≤ l.Accept.length) ∧ ((rw_ ++ ([(orTo (leadR l n0) (l.Next.getD k []) c)])) = rowT l (leadR l n0) (k + 1))
         refine ⟨?_, ?_⟩
         ·omega
         ·rw [hi1_1, show c = 37 by omega, rowT_s]
        ·show l.Accept.length - (k + 1) < l.Accept.length - k
         omega
        ·intro A_ W_ hS
         exact q_v [∀ i, i < (leadsL l n0).length → D.p ((eL eB 1 false) ((leadsL l n0).getD i [])) = .p ((eL eB 1 false) ((leadsL l n0).getD i [])), ∀ i, i < (rw_ ++ ([(orTo (leadR l n0) (l.Next.getD k []) c)])).length → D.p (eB ((rw_ ++ ([(orTo (leadR l n0) (l.Next.getD k []) c)])).getD i false)) = .p (eB ((rw_ ++ ([(orTo (leadR l n0) (l.Next.getD k []) c)])).getD i false))] [0, 1, 3] [1, 2, 5, 6, 7, 8] (al (fun _ _ => rfl) (al (fun _ _ => rfl) trivial)) hS
     ·refine tr_exit (th_e (th_e (in_hit (tr_then (tr_pre (E' := [(1, none, vint .i64 (min m 100)), (2, none, .ref 0 []), (5, none, .own 1), (6, none, vint .i64 (((n0 + 1) : Nat) : Int)), (7, none, .p ((eL eB 1 false) rw_)), (8, none, vint .i64 (k : Int)), (33, none, vbool (decide ((k : Int) < (l.Accept.length : Int))))]) (H' := [.box (.p (eLang l)), oL 29 (eL eB 1 false) 1 [] (leadsL l n0), .dead]) (fun _ _ => sl_freeze (vc := [∀ j, j < rw_.length → D.p (eB (rw_.getD j false)) = .p ((fun j => eB (rw_.getD j false)) j), ∀ i, i < (leadsL l n0).length → D.p ((eL eB 1 false) ((leadsL l n0).getD i [])) = .p ((eL eB 1 false) ((leadsL l n0).getD i []))]) 2 (fun j => eB (rw_.getD j false)) (by kernel_rfl) (al (fun _ _ => rfl) (al (fun _ _ => rfl) trivial))) (q_r [∀ j, j < 1 → ([(eL eB 1 false) rw_] : List PV).getD j default = (fun i => (eL eB 1 false) (([rw_]).getD i [])) j, (((leadsL l n0).length) + (([rw_]).length)) * 24 ≤ 140737488355328] [1, 2, 5, 6] [vint .i64 (min m 100), .ref 0 [], .own 3, vint .i64 (((n0 + 1) : Nat) : Int)] [.box (.p (eLang l)), .dead, .dead, .arr 29 1 ((leadsL l n0).length + ([rw_]).length) (appF (fun i => .p ((eL eB 1 false) ((leadsL l n0).getD i []))) ((leadsL l n0).length) (fun j => .p ((eL eB 1 false) (([rw_]).getD j []))))] [] [(2, .p ((eL (eL eB 1 false) 1 []) ([rw_])))] (al (lit_pv (e := (eL eB 1 false)) (d := []) (l := [rw_])) (al (by simp_all; omega) (trivial))) (nm_pre (E' := [(1, none, vint .i64 (min m 100)), (2, none, .ref 0 []), (5, none, .own 3), (6, none, vint .i64 (((n0 + 1) : Nat) : Int))]) (H' := [.box (.p (eLang l)), .dead, .dead, oL 29 (eL eB 1 false) 1 [] ((leadsL l n0) ++ ([rw_]))]) (fun _ _ => sl_arr (n := ((leadsL l n0).length + ([rw_]).length)) (n' := ((leadsL l n0) ++ ([rw_])).length) (f := appF (fun i => .p ((eL eB 1 false) ((leadsL l n0).getD i []))) ((leadsL l n0).length) (fun j => .p ((eL eB 1 false) (([rw_]).getD j [])))) 3 (fun i => .p ((eL eB 1 false) (((leadsL l n0) ++ ([rw_])).getD i []))) (by kernel_rfl) (by simp) (by first | exact appN | exact nilN | exact app0 | exact nilV _)) (in_n (tr_then (q_k [(IntKind.wrap .i64 ((((n0 + 1) : Nat) : Int) + 1)) = ((((n0 + 1) + 1) : Nat) : Int)] [1, 2, 5, 6] [vint .i64 (min m 100), .ref 0 [], .own 3, vint .i64 ((((n0 + 1) + 1) : Nat) : Int)] [(1, vint .i64 ((((n0 + 1) + 1) : Nat) : Int))] [] (al (wr64 (by omega) (by omega) (by omega)) (trivial)) (lp_end (n0 + 1) ?_ ?_ ?_)))))))))))
      ·show ((n0 + 1) ≤ 12)
       ·omega
      ·show 12 - (n0 + 1) < 12 - n0
       omega
      ·intro A_ W_ hS
       replace hS := sl_arr (e := 29) (sz := 1) (n := ((leadsL l n0) ++ ([rw_])).length) (n' := (leadsL l (n0 + 1)).length) (f := (fun i => .p ((eL eB 1 false) (((leadsL l n0) ++ ([rw_])).getD i [])))) 3 (fun i => .p ((eL eB 1 false) ((leadsL l (n0 + 1)).getD i []))) (by kernel_rfl) (by rw [hi1_1, show k = l.Accept.length by omega, rowT_end hok, leadsL_next]) (by intro j hj; rw [hi1_1, show k = l.Accept.length by omega, rowT_end hok, leadsL_next]) hS
       exact q_v [∀ i, i < (leadsL l (n0 + 1)).length → D.p ((eL eB 1 false) ((leadsL l (n0 + 1)).getD i [])) = .p ((eL eB 1 false) ((leadsL l (n0 + 1)).getD i []))] [0, 3] [1, 2, 5, 6] (al (fun _ _ => rfl) trivial) hS
   ·refine tr_exit (th_e (th_e (in_hit (tr_then (tr_seq (q_m [1, 2, 5, 11] [vint .i64 (min m 100), .ref 0 [], .own 1, .p (.v (.slice none 0 0))] (tr_then (tr_seq (tr_seq (tr_pre (E' := [(1, none, vint .i64 (min m 100)), (2, none, .ref 0 []), (5, none, .p ((eL (eL eB 1 false) 1 []) (leadsL l n0))), (11, none, .p (.v (.slice none 0 0)))]) (H' := [.box (.p (eLang l)), .dead]) (fun _ _ => sl_freeze (vc := [∀ j, j < (leadsL l n0).length → D.p ((eL eB 1 false) ((leadsL l n0).getD j [])) = .p ((fun j => (eL eB 1 false) ((leadsL l n0).getD j [])) j)]) 1 (fun j => (eL eB 1 false) ((leadsL l n0).getD j [])) (by kernel_rfl) (al (fun _ _ => rfl) trivial)) (q_m [1, 2, 5, 11, 12] [vint .i64 (min m 100), .ref 0 [], .p ((eL (eL eB 1 false) 1 []) (leadsL l n0)), .p (.v (.slice none 0 0)), vint .i64 0] (tr_then (tr_block (tr_loop (α := Nat × (List (List UInt8))) (fun z : Nat × (List (List UInt8)) => (fun (n : Nat) (o : List (List UInt8)) => [(1, none, vint .i64 (min m 100)), (2, none, .ref 0 []), (5, none, .p ((eL (eL eB 1 false) 1 []) (leadsL l n0))), (11, none, .own 1), (12, none, vint .i64 (n : Int))]) z.1 z.2) (fun z : Nat × (List (List UInt8)) => (fun (n : Nat) (o : List (List UInt8)) => [.box (.p (eLang l)), oL 9 eS 1 [] o]) z.1 z.2) (fun z : Nat × (List (List UInt8)) => (fun (n : Nat) (o : List (List UInt8)) => (n ≤ 13) ∧ (o = ((allC l n).take (min m 100).toNat))) z.1 z.2) (fun z : Nat × (List (List UInt8)) => (fun (n : Nat) (o : List (List UInt8)) => 13 - n) z.1 z.2) (0, ([] : List (List UInt8))) ?_ ?_ ?_))))))))))))))
    ·show (0 ≤ 13) ∧ (([] : List (List UInt8)) = ((allC l 0).take (min m 100).toNat))
     refine ⟨?_, ?_⟩
     ·omega
     ·rw [show allC l 0 = [] from rfl, List.take_nil]
    ·intro A_ W_ hS
     replace hS := sl_nil 11 9 1 (fun i => .p (eS (([] : List (List UInt8)).getD i []))) (by kernel_rfl) hS
     replace hS := q_a (d := vint .i64 0) 12 (vint .i64 ((0 : Nat) : Int)) (eqD_int (by omega)) hS
     exact q_v [∀ i, i < ([] : List (List UInt8)).length → D.p (eS (([] : List (List UInt8)).getD i [])) = .p (eS (([] : List (List UInt8)).getD i []))] [0, 2] [1, 2, 5, 11, 12] (al (fun _ _ => rfl) trivial) hS
    ·intro z hz
     obtain ⟨n, o⟩ := z
     have hz : (n ≤ 13) ∧ (o = ((allC l n).take (min m 100).toNat)) := hz
     obtain ⟨hi3_0, hi3_1⟩ := hz
     have hok : check l = 0 := by omega
     obtain ⟨f1, f2, f3, f4⟩ := check_facts hok
     have htl : o.length ≤ (min m 100).toNat := by rw [hi3_1, List.length_take]; omega
     refine tr_seq (tr_seq (q_t [1, 2, 5, 11, 12, 78] [vint .i64 (min m 100), .ref 0 [], .p ((eL (eL eB 1 false) 1 []) (leadsL l n0)), .own 1, vint .i64 (n : Int), vbool (decide ((n : Int) ≤ 12))] [.box (.p (eLang l)), oL 9 eS 1 [] o] (tr_then (q_e ((n : Int) ≤ 12) (fun hc5 => ?_) (fun hc5 => ?_)))))
     ·refine tr_skip (tr_then (tr_seq (tr_block (q_r [(IntKind.wrap .i64 ((min m 100) - (o.length : Int))) = ((min m 100) - (o.length : Int)), Pure Try.prog 44 [eLang l, (eL (eL eB 1 false) 1 []) (leadsL l n0), .v (.int .i64 0), .s ([] : List UInt8), .v (.int .i64 (n : Int)), .v (.int .i64 ((min m 100) - (o.length : Int)))] (.p ((eL eS 1 []) ((extW l n 0 ([] : List UInt8)).take ((min m 100) - (o.length : Int)).toNat))), (o.length + (((extW l n 0 ([] : List UInt8)).take ((min m 100) - (o.length : Int)).toNat).length)) * 16 ≤ 140737488355328] [1, 2, 5, 11, 12] [vint .i64 (min m 100), .ref 0 [], .p ((eL (eL eB 1 false) 1 []) (leadsL l n0)), .own 2, vint .i64 (n : Int)] [.box (.p (eLang l)), .dead, .arr 9 1 (o.length + ((extW l n 0 ([] : List UInt8)).take ((min m 100) - (o.length : Int)).toNat).length) (appF (fun i => .p (eS (o.getD i []))) o.length (fun j => .p (eS (((extW l n 0 ([] : List UInt8)).take ((min m 100) - (o.length : Int)).toNat).getD j []))))] [(7, vint .i64 ((min m 100) - (o.length : Int)))] [(8, .p ((eL eS 1 []) ((extW l n 0 ([] : List UInt8)).take ((min m 100) - (o.length : Int)).toNat)))] (al (wr64 (by omega) (by omega) (by omega)) (al (by rw [show n0 = 12 by omega]; exact extend_ok l (by omega) n 0 [] _ (by omega) (by omega) (by show 0 + n ≤ 12; omega) (by omega)) (al (by simp_all; omega) (trivial)))) (nm_pre (E' := [(1, none, vint .i64 (min m 100)), (2, none, .ref 0 []), (5, none, .p ((eL (eL eB 1 false) 1 []) (leadsL l n0))), (11, none, .own 2), (12, none, vint .i64 (n : Int))]) (H' := [.box (.p (eLang l)), .dead, oL 9 eS 1 [] (o ++ ((extW l n 0 ([] : List UInt8)).take ((min m 100) - (o.length : Int)).toNat))]) (fun _ _ => sl_arr (n := (o.length + ((extW l n 0 ([] : List UInt8)).take ((min m 100) - (o.length : Int)).toNat).length)) (n' := (o ++ ((extW l n 0 ([] : List UInt8)).take ((min m 100) - (o.length : Int)).toNat)).length) (f := appF (fun i => .p (eS (o.getD i []))) o.length (fun j => .p (eS (((extW l n 0 ([] : List UInt8)).take ((min m 100) - (o.length : Int)).toNat).getD j [])))) 2 (fun i => .p (eS ((o ++ ((extW l n 0 ([] : List UInt8)).take ((min m 100) - (o.length : Int)).toNat)).getD i []))) (by kernel_rfl) (by simp) (by first | exact appN | exact nilN | exact app0 | exact nilV _)) (in_n (tr_then (q_k [(IntKind.wrap .i64 ((n : Int) + 1)) = (((n + 1) : Nat) : Int)] [1, 2, 5, 11, 12] [vint .i64 (min m 100), .ref 0 [], .p ((eL (eL eB 1 false) 1 []) (leadsL l n0)), .own 2, vint .i64 (((n + 1) : Nat) : Int)] [(1, vint .i64 (((n + 1) : Nat) : Int))] [] (al (wr64 (by omega) (by omega) (by omega)) (trivial)) (lp_end ((n + 1), (o ++ ((extW l n 0 ([] : List UInt8)).take ((min m 100) - (o.length : Int)).toNat))) ?_ ?_ ?_)))))))))
      ·show ((n + 1) ≤ 13) ∧ ((o ++ ((extW l n 0 ([] : List UInt8)).take ((min m 100) - (o.length : Int)).toNat)) = ((allC l (n + 1)).take (min m 100).toNat))
       refine ⟨?_, ?_⟩
       ·omega
       ·rw [hi3_1]; exact allC_take (by omega)
      ·show 13 - (n + 1) < 13 - n
       omega
      ·intro A_ W_ hS
       exact q_v [∀ i, i < (o ++ ((extW l n 0 ([] : List UInt8)).take ((min m 100) - (o.length : Int)).toNat)).length → D.p (eS ((o ++ ((extW l n 0 ([] : List UInt8)).take ((min m 100) - (o.length : Int)).toNat)).getD i [])) = .p (eS ((o ++ ((extW l n 0 ([] : List UInt8)).take ((min m 100) - (o.length : Int)).toNat)).getD i []))] [0, 2] [1, 2, 5, 11, 12] (al (fun _ _ => rfl) trivial) hS
     ·refine tr_exit (th_e (th_e (in_hit (tr_then (tr_seq (tr_pre (E' := [(1, none, vint .i64 (min m 100)), (2, none, .ref 0 []), (5, none, .p ((eL (eL eB 1 false) 1 []) (leadsL l n0))), (11, none, .p ((eL eS 1 []) o)), (12, none, vint .i64 (n : Int)), (78, none, vbool (decide ((n : Int) ≤ 12)))]) (H' := [.box (.p (eLang l)), .dead]) (fun _ _ => sl_freeze (vc := [∀ j, j < o.length → D.p (eS (o.getD j [])) = .p ((fun j => eS (o.getD j [])) j)]) 1 (fun j => eS (o.getD j [])) (by kernel_rfl) (al (fun _ _ => rfl) trivial)) (q_m [4] [.p ((eL eS 1 []) o)] (tr_then (tr_pre (E' := [(4, none, .p ((eL eS 1 []) o))]) (H' := []) (fun _ _ h => q_w [] [4] h) (q_i (d := .p ((eL eS 1 []) o)) 4 (.p ((eL eS 1 []) (firstS l m))) ?_ ?_))))))))))
      ·refine imp_eq (congrArg (fun x => D.p ((eL eS 1 []) x)) (a₁ := o) (a₂ := (firstS l m)) ?_)
       rw [hi3_1, firstS, if_neg hc1, show n = 13 by omega]; rfl
      exact q_z [.p ((eL eS 1 []) (firstS l m))] (fun _ _ h => h)
end Go.Proofs.Ytjnjmnfacaakfaa
namespace Go.Proofs.Ytjnjmnfacaakfaa
open Go.Eng
theorem bitOf_word {S : Nat → Bool} {c : Nat} (h : c < 64) : bitOf (word64 S) c = S c := by
 unfold bitOf word64
 rw [shr_u64 h]
 have e : ((1 : Nat) : Int) = 1 := rfl
 have hlt : wordN S 64 >>> c < 2 ^ 64 := Nat.lt_of_le_of_lt (Nat.shiftRight_le _ _) (wordN_lt S 64)
 rw [← e, and_u64 hlt (by decide), wordN_has S h]
 cases S c <;> rfl
def SetEq (S o : Nat → Bool) : Prop := ∀ c, c < 37 → S c = o c
theorem sym_45 (b : UInt8) : sym (b.toNat : Int) = 36 ↔ b = 45 := by
 constructor
 ·intro h
  have hb := b.toNat_lt
  have : (b.toNat : Int) = 45 := by
   unfold sym at h
   split at h
   ·omega
   ·split at h
    ·omega
    ·split at h
     ·assumption
     ·omega
  exact UInt8.toNat_inj.1 (show b.toNat = 45 by omega)
 ·rintro rfl; rfl
theorem ne_byte {b c : UInt8} (n : Nat) (hc : c.toNat = n) : ((b.toNat : Int) = (n : Int)) ↔ b = c := by
 subst hc
 constructor
 ·intro h
  exact UInt8.toNat_inj.1 (by omega)
 ·rintro rfl; rfl
theorem drop_next {s l : List UInt8} {b : UInt8} {p : Nat} (h : s.drop p = b :: l) : p < s.length ∧ s.getD p 0 = b ∧ s.drop (p + 1) = l := by
 have hp : p < s.length := by
  by_cases hp : p < s.length
  ·exact hp
  ·rw [List.drop_of_length_le (by omega)] at h; cases h
 rw [drop_get (d := 0) hp] at h
 injection h with h1 h2
 exact ⟨hp, h1, h2⟩
theorem hasPre_cons (b : UInt8) (l : List UInt8) : hasPre (b :: l) [45] = true ↔ b = 45 := by
 unfold hasPre
 simp
theorem setEq_one {S o : Nat → Bool} (h : SetEq S o) {a : Int} (h0 : 0 ≤ a) : SetEq (range S a (a + 1)) (orN o (upd noSet a.toNat true) 37) := by
 intro c hc
 unfold range orN upd noSet
 rw [if_pos hc, h c hc]
 congr 1
 by_cases he : c = a.toNat
 ·rw [if_pos he, decide_eq_true (by omega)]
 ·rw [if_neg he, decide_eq_false (by omega)]
theorem setEq_range {S o : Nat → Bool} (h : SetEq S o) {a b : Int} (h0 : 0 ≤ a) (h1 : a ≤ b) : SetEq (range S a (b + 1)) (orN o (range (upd noSet a.toNat true) a (b + 1)) 37) := by
 intro c hc
 unfold range orN
 rw [if_pos hc, h c hc]
 congr 1
 show decide (a ≤ (c : Int) ∧ (c : Int) < b + 1) = (upd noSet a.toNat true c || decide (a ≤ (c : Int) ∧ (c : Int) < b + 1))
 unfold upd noSet
 by_cases he : c = a.toNat
 ·rw [if_pos he, decide_eq_true (by omega)]; rfl
 ·rw [if_neg he, Bool.false_or]
theorem setL_memb {s rest : List UInt8} {f : Nat} : ∀ {n k p : Nat} {l : List UInt8} {S o : Nat → Bool}, s.drop p = l ++ 93 :: rest → (∀ b ∈ l, b ≠ 93) → l.length ≤ k → l.length < n → (f < p ∨ f = p ∧ ∃ b l', l = b :: l' ∧ b ≠ 45) → SetEq S o →
  (memb k l S = none ∧ (setL n s f p o).2.2 = false) ∨ ∃ S', memb k l S = some S' ∧ (setL n s f p o).2.2 = true ∧ (setL n s f p o).2.1 = p + l.length + 1 ∧ SetEq S' (setL n s f p o).1
 | 0, _, _, _, _, _, _, _, _, h, _, _ => by omega
 | n + 1, k, p, [], S, o, hd, _, _, _, hf, hS => by
  have hf : f < p := hf.elim id fun ⟨_, b, l', h, _⟩ => by cases h
  obtain ⟨hp, h1, h2⟩ := drop_next hd
  refine .inr ⟨S, memb_nil rfl, ?_⟩
  have e : setL (n + 1) s f p o = (o, p + 1, decide ((p : Int) < (s.length : Int)) && decide ((f : Int) < (p : Int))) := by
   refine setL_3 (by omega) fun h => h.2 ?_
   rw [h1]; rfl
  rw [e]
  exact ⟨by simp; omega, by simp, hS⟩
 | n + 1, k, p, b :: l, S, o, hd, h93, hk, hn, hf, hS => by
  obtain ⟨hp, h1, h2⟩ := drop_next hd
  simp only [List.length_cons] at hk hn
  have hb : b ≠ 93 := h93 b (by simp)
  have hgo : (p : Int) < (s.length : Int) ∧ ((s.getD p 0).toNat : Int) ≠ 93 := ⟨by omega, by rw [h1]; exact fun h => hb ((ne_byte 93 rfl).1 h)⟩
  have es0 : s0 (b :: l) = sym (b.toNat : Int) := rfl
  have em0 : m0 s p = sym (b.toNat : Int) := by unfold m0; rw [h1]
  have q1 := sym_le (b.toNat : Int)
  have q2 := sym_ge (b.toNat : Int)
  have bad : (memF s f p).2.2 = false → (setL (n + 1) s f p o).2.2 = false := fun h => by rw [setL_1 (by omega) hgo h]
  have emF : memF s f p = memR s p ((p : Int) == (f : Int)) := rfl
  by_cases c1 : sym (b.toNat : Int) < 0
  ·refine .inl ⟨memb_1 (by simp) (by simpa using hk) (.inl (by rw [es0]; exact c1)), bad ?_⟩
   rw [emF, memR, if_pos (by rw [em0]; exact c1)]
  by_cases c2 : sym (b.toNat : Int) = 36
  ·have hf : f < p := hf.elim id fun ⟨_, b', l', h, h'⟩ => by
    injection h with h3 h4
    exact absurd (h3 ▸ (sym_45 b).1 c2) h'
   refine .inl ⟨memb_1 (by simp) (by simpa using hk) (.inr (by rw [es0]; exact c2)), bad ?_⟩
   rw [emF, memR, if_neg (by rw [em0]; omega), if_pos (by rw [em0]; exact c2)]
   show ((p : Int) == (f : Int)) = false
   rw [beq_eq_false_iff_ne]; omega
  have n1 : ¬ (s0 (b :: l) < 0 ∨ s0 (b :: l) = 36) := by rw [es0]; omega
  have m1 : ¬ m0 s p < 0 := by rw [em0]; exact c1
  have m2 : ¬ m0 s p = 36 := by rw [em0]; exact c2
  have hdr : (b :: l).drop 1 = l := rfl
  by_cases c3 : hasPre l [45] = true
  ·match l, c3, hd, h93, hk, hn, h2, n1, es0, hdr with
   | [], c3, _, _, _, _, _, _, _, _ => simp [hasPre] at c3
   | d :: l2, c3, hd, h93, hk, hn, h2, n1, es0, hdr =>
    obtain rfl := (hasPre_cons d l2).1 c3
    simp only [List.length_cons] at hk hn
    obtain ⟨hp1, g1, g2⟩ := drop_next h2
    have m3 : ¬ ((s.length : Int) ≤ ((p + 1 : Nat) : Int) ∨ ((s.getD (p + 1) 0).toNat : Int) ≠ 45) := by
     rw [g1]; intro h; rcases h with h | h
     ·omega
     ·exact h rfl
    match l2, hd, h93, hk, hn, h2, n1, es0, hdr, c3, g2 with
    | [], hd, h93, hk, hn, h2, n1, es0, hdr, c3, g2 =>
     obtain ⟨hp2, g3, g4⟩ := drop_next g2
     refine .inl ⟨memb_2 (by simp) (by simp; omega) n1 c3 (by simp), bad ?_⟩
     have e2 : m0 s (p + 2) = -1 := by unfold m0; rw [show p + 2 = p + 1 + 1 from rfl, g3]; rfl
     rw [emF, memR, if_neg m1, if_neg m2, if_neg m3, if_neg (by omega), if_pos (.inl (.inl (by rw [e2]; omega)))]
    | e :: l3, hd, h93, hk, hn, h2, n1, es0, hdr, c3, g2 =>
     obtain ⟨hp2, g3, g4⟩ := drop_next g2
     simp only [List.length_cons] at hk hn
     have es1 : s1 (b :: 45 :: e :: l3) = sym (e.toNat : Int) := rfl
     have em1 : m0 s (p + 2) = sym (e.toNat : Int) := by unfold m0; rw [show p + 2 = p + 1 + 1 from rfl, g3]
     by_cases c4 : (sym (e.toNat : Int) < sym (b.toNat : Int) ∨ sym (e.toNat : Int) = 36) ∨ sym (b.toNat : Int) < 26 ∧ 26 ≤ sym (e.toNat : Int)
     ·refine .inl ⟨memb_3 (by simp) (by simp; omega) n1 c3 (by simp) (by rw [es0, es1]; exact c4), bad ?_⟩
      rw [emF, memR, if_neg m1, if_neg m2, if_neg m3, if_neg (by omega), if_pos (by rw [em0, em1]; exact c4)]
     ·have e1 : memb k (b :: 45 :: e :: l3) S = memb (k - 1) l3 (range S (sym (b.toNat : Int)) (sym (e.toNat : Int) + 1)) := by
       rw [memb_4 (by simp) (by simp; omega) n1 c3 (by simp) (by rw [es0, es1]; exact c4), es0, es1]; rfl
      have e2 : memF s f p = (range (memS s p) (m0 s p) (m0 s (p + 2) + 1), p + 3, true) := by
       rw [emF, memR, if_neg m1, if_neg m2, if_neg m3, if_neg (by omega), if_neg (by rw [em0, em1]; exact c4)]
      rw [e1, setL_2 (by omega) hgo (by rw [e2]; simp), e2]
      have eS : memS s p = upd noSet (sym (b.toNat : Int)).toNat true := by unfold memS; rw [em0]
      rw [em0, em1, eS]
      have ih := setL_memb (s := s) (rest := rest) (f := f) (n := n) (k := k - 1) (p := p + 3) (l := l3) (S := range S (sym (b.toNat : Int)) (sym (e.toNat : Int) + 1))
       (o := orN o (range (upd noSet (sym (b.toNat : Int)).toNat true) (sym (b.toNat : Int)) (sym (e.toNat : Int) + 1)) 37)
       g4 (fun x hx => h93 x (by simp [hx])) (by omega) (by omega) (by left; omega) (setEq_range hS (by omega) (by omega))
      rw [Nat.add_sub_cancel]
      rcases ih with ⟨i1, i2⟩ | ⟨S', i1, i2, i3, i4⟩
      ·exact .inl ⟨i1, i2⟩
      ·exact .inr ⟨S', i1, i2, by rw [i3]; simp only [List.length_cons]; omega, i4⟩
  ·have m3 : (s.length : Int) ≤ ((p + 1 : Nat) : Int) ∨ ((s.getD (p + 1) 0).toNat : Int) ≠ 45 := by
    right
    match l, c3, h2 with
    | [], _, h2 =>
     obtain ⟨_, g1, _⟩ := drop_next h2
     rw [g1]; decide
    | d :: l2, c3, h2 =>
     obtain ⟨_, g1, _⟩ := drop_next h2
     rw [g1]
     exact fun h => c3 ((hasPre_cons d l2).2 ((ne_byte 45 rfl).1 h))
   have e1 : memb k (b :: l) S = memb (k - 1) l (range S (sym (b.toNat : Int)) (sym (b.toNat : Int) + 1)) := by
    rw [memb_5 (by simp) (by simpa using hk) n1 c3, es0]; rfl
   have e2 : memF s f p = (memS s p, p + 1, true) := by
    rw [emF, memR, if_neg m1, if_neg m2, if_pos m3]
   rw [e1, setL_2 (by omega) hgo (by rw [e2]; simp), e2]
   have eS : memS s p = upd noSet (sym (b.toNat : Int)).toNat true := by unfold memS; rw [em0]
   rw [eS, Nat.add_sub_cancel]
   have ih := setL_memb (s := s) (rest := rest) (f := f) (n := n) (k := k - 1) (p := p + 1) (l := l) (S := range S (sym (b.toNat : Int)) (sym (b.toNat : Int) + 1)) (o := orN o (upd noSet (sym (b.toNat : Int)).toNat true) 37)
    h2 (fun x hx => h93 x (by simp [hx])) (by omega) (by omega) (by left; omega) (setEq_one hS (by omega))
   rcases ih with ⟨i1, i2⟩ | ⟨S', i1, i2, i3, i4⟩
   ·exact .inl ⟨i1, i2⟩
   ·exact .inr ⟨S', i1, i2, by rw [i3]; simp only [List.length_cons]; omega, i4⟩
end Go.Proofs.Ytjnjmnfacaakfaa
namespace Go.Proofs.Ytjnjmnfacaakfaa
open Go.Eng
theorem index_split {c : UInt8} : ∀ {t : List UInt8}, 0 ≤ Lib.indexByte t c → t = t.take (Lib.indexByte t c).toNat ++ c :: t.drop ((Lib.indexByte t c) + 1).toNat ∧ ∀ b ∈ t.take (Lib.indexByte t c).toNat, b ≠ c
 | [], h => by simp [Lib.indexByte] at h
 | b :: t, h => by
  have hge := Lib.indexByte_ge t c
  simp only [Lib.indexByte] at h ⊢
  by_cases hb : (b == c) = true
  ·have : b = c := by simpa using hb
   subst this
   simp
  ·rw [if_neg hb] at h ⊢
   by_cases hm : Lib.indexByte t c = -1
   ·rw [hm] at h; simp at h
   ·have h0 : 0 ≤ Lib.indexByte t c := by omega
    have hm' : ¬ (Lib.indexByte t c == -1) = true := by simpa using hm
    rw [if_neg hm']
    obtain ⟨i1, i2⟩ := index_split h0
    have e1 : (Lib.indexByte t c + 1).toNat = (Lib.indexByte t c).toNat + 1 := by omega
    have e2 : (Lib.indexByte t c + 1 + 1).toNat = (Lib.indexByte t c + 1).toNat + 1 := by omega
    rw [e2, List.drop_succ_cons, e1, List.take_succ_cons, List.cons_append]
    rw [e1] at i1
    refine ⟨by rw [← i1], fun x hx => ?_⟩
    rcases List.mem_cons.1 hx with rfl | hx
    ·simpa using hb
    ·exact i2 x hx
theorem index_none {c : UInt8} : ∀ {t : List UInt8}, ¬ 0 ≤ Lib.indexByte t c → ∀ b ∈ t, b ≠ c
 | [], _ => by simp
 | b :: t, h => by
  have hge := Lib.indexByte_ge t c
  simp only [Lib.indexByte] at h
  by_cases hb : (b == c) = true
  ·rw [if_pos hb] at h; omega
  ·rw [if_neg hb] at h
   have h0 : ¬ 0 ≤ Lib.indexByte t c := by
    intro h0
    have hm' : ¬ (Lib.indexByte t c == -1) = true := by simp; omega
    rw [if_neg hm'] at h
    omega
   intro x hx
   rcases List.mem_cons.1 hx with rfl | hx
   ·simpa using hb
   ·exact index_none h0 x hx
theorem setL_none {s : List UInt8} {f : Nat} : ∀ {n p : Nat} {o : Nat → Bool}, (∀ i, p ≤ i → s.getD i 0 ≠ 93) → (setL n s f p o).2.2 = false
 | 0, _, _, _ => rfl
 | n + 1, p, o, h => by
  by_cases hp : p < s.length
  ·have hgo : (p : Int) < (s.length : Int) ∧ ((s.getD p 0).toNat : Int) ≠ 93 := ⟨by omega, fun e => h p (Nat.le_refl _) ((ne_byte 93 rfl).1 e)⟩
   by_cases hm : (memF s f p).2.2 = false
   ·rw [setL_1 (by omega) hgo hm]
   ·have hle := memF_le hp (eq_true_of_ne_false hm)
    rw [setL_2 (by omega) hgo hm]
    exact setL_none fun i hi => h i (by omega)
  ·rw [setL_3 (by omega) (fun h => hp (by have := h.1; omega)), decide_eq_false (by omega)]
   rfl
theorem class_R {s : List UInt8} {p : Nat} (hp : p ≤ s.length) : (classS (s.drop p) = none ∧ (setL (s.length + 1) s p p noSet).2.2 = false) ∨
  ∃ S q, classS (s.drop p) = some (S, q) ∧ (setL (s.length + 1) s p p noSet).2.2 = true ∧ (setL (s.length + 1) s p p noSet).2.1 ≤ s.length ∧ s.drop (setL (s.length + 1) s p p noSet).2.1 = q ∧ SetEq S (setL (s.length + 1) s p p noSet).1 := by
 by_cases h0 : 0 ≤ Lib.indexByte (s.drop p) 93
 ·obtain ⟨hd, h93⟩ := index_split h0
  have ec : cutB (s.drop p) 93 = ((s.drop p).take (Lib.indexByte (s.drop p) 93).toNat, (s.drop p).drop ((Lib.indexByte (s.drop p) 93) + 1).toNat, true) := by unfold cutB; rw [if_pos h0]
  generalize (s.drop p).take (Lib.indexByte (s.drop p) 93).toNat = body at hd h93 ec
  generalize (s.drop p).drop ((Lib.indexByte (s.drop p) 93) + 1).toNat = rest at hd ec
  have hlen : (s.drop p).length = body.length + (rest.length + 1) := by rw [hd]; simp
  rw [List.length_drop] at hlen
  match body, hd, h93, ec, hlen with
  | [], hd, _, ec, hlen =>
   obtain ⟨hlt, g1, g2⟩ := drop_next hd
   refine .inl ⟨class_none0 (.inr (by rw [ec])), ?_⟩
   rw [setL_3 (by omega) (fun h => h.2 (by rw [g1]; rfl))]
   simp
  | b :: body, hd, h93, ec, hlen =>
   have hcl : ∀ x, classM (b :: body) = x → classS (s.drop p) = x.map fun S => (S, rest) := fun x hx => by
    unfold classS
    rw [ec, if_neg (by simp), hx]
   obtain ⟨hlt, g1, g2⟩ := drop_next hd
   simp only [List.length_cons] at hlen
   have fin : ∀ {k l S p' o n}, s.drop p' = l ++ 93 :: rest → (∀ b ∈ l, b ≠ 93) → l.length ≤ k → l.length < n → (p < p' ∨ p = p' ∧ ∃ b l', l = b :: l' ∧ b ≠ 45) → SetEq S o → memb k l S = classM (b :: body) → setL n s p p' o = setL (s.length + 1) s p p noSet → p' + l.length + rest.length + 1 = s.length →
     (classS (s.drop p) = none ∧ (setL (s.length + 1) s p p noSet).2.2 = false) ∨
     ∃ S q, classS (s.drop p) = some (S, q) ∧ (setL (s.length + 1) s p p noSet).2.2 = true ∧ (setL (s.length + 1) s p p noSet).2.1 ≤ s.length ∧ s.drop (setL (s.length + 1) s p p noSet).2.1 = q ∧ SetEq S (setL (s.length + 1) s p p noSet).1 := by
    intro k l S p' o n a1 a2 a3 a4 a5 a6 a7 a8 a9
    rcases setL_memb a1 a2 a3 a4 a5 a6 with ⟨i1, i2⟩ | ⟨S', i1, i2, i3, i4⟩
    ·rw [a7] at i1
     rw [a8] at i2
     exact .inl ⟨by rw [hcl _ i1]; rfl, i2⟩
    ·rw [a7] at i1
     rw [a8] at i2 i3 i4
     refine .inr ⟨S', rest, by rw [hcl _ i1]; rfl, i2, by rw [i3]; omega, ?_, i4⟩
     rw [i3, Nat.add_assoc, ← List.drop_drop, a1]
     simp
   by_cases h45 : b = 45
   ·subst h45
    have e2 : memF s p p = (memS s p, p + 1, true) := by
     unfold memF memR
     have em : m0 s p = 36 := by unfold m0; rw [g1]; rfl
     rw [if_neg (by rw [em]; omega), if_pos em]
     simp
    have hgo : (p : Int) < (s.length : Int) ∧ ((s.getD p 0).toNat : Int) ≠ 93 := ⟨by omega, by rw [g1]; decide⟩
    refine fin (k := (45 :: body).length) (l := body) (S := upd noSet 36 true) (p' := p + 1) (o := orN noSet (memS s p) 37) (n := s.length) g2 (fun x hx => h93 x (by simp [hx])) (by simp) (by omega) (by left; omega) ?_ ?_ ?_ (by omega)
    ·intro c hc
     unfold orN memS m0
     rw [if_pos hc, g1]
     rfl
    ·unfold classM
     rw [if_pos (show (((45 :: body : List UInt8).getD 0 0).toNat : Nat) = 45 from rfl)]
     rfl
    ·rw [setL_2 (n := s.length + 1) (by omega) hgo (by rw [e2]; simp), e2]; rfl
   ·refine fin (k := (b :: body).length) (l := b :: body) (S := noSet) (p' := p) (o := noSet) (n := s.length + 1) hd h93 (Nat.le_refl _) (by simp; omega) (.inr ⟨rfl, b, body, rfl, h45⟩) (fun _ _ => rfl) ?_ rfl (by simp; omega)
    unfold classM
    rw [if_neg]
    show ¬ b.toNat = 45
    intro h
    exact h45 (UInt8.toNat_inj.1 h)
 ·refine .inl ⟨class_none0 (.inl ?_), setL_none fun i hi => ?_⟩
  ·unfold cutB; rw [if_neg h0]
  ·by_cases hl : i < s.length
   ·have := index_none h0 (s.getD i 0) (by
     rw [List.mem_iff_getElem?]
     refine ⟨i - p, ?_⟩
     rw [List.getElem?_drop, show p + (i - p) = i by omega, List.getD_eq_getElem?_getD, List.getElem?_eq_getElem hl]; rfl)
    exact this
   ·rw [List.getD_eq_getElem?_getD, List.getElem?_eq_none (by omega)]; decide
theorem drop_getD {s : List UInt8} {p : Nat} : (s.drop p).getD 0 0 = s.getD p 0 := by
 rw [List.getD_eq_getElem?_getD, List.getD_eq_getElem?_getD, List.getElem?_drop, Nat.add_zero]
theorem set_R {s : List UInt8} {p : Nat} (hp : p < s.length) : (pSet (s.drop p) = none ∧ (setR s p).2.2 = false) ∨
  ∃ S q, pSet (s.drop p) = some (S, q) ∧ (setR s p).2.2 = true ∧ (setR s p).2.1 ≤ s.length ∧ s.drop (setR s p).2.1 = q ∧ SetEq S (setR s p).1 := by
 unfold pSet setR
 rw [drop_getD]
 by_cases h91 : ((s.getD p 0).toNat : Int) = 91
 ·rw [if_pos h91, if_neg (by simpa using h91), List.drop_drop]
  exact class_R (by omega)
 ·rw [if_neg h91, if_pos h91]
  have em : m0 s p = sym ((s.getD p 0).toNat : Int) := rfl
  by_cases h0 : 0 ≤ sym ((s.getD p 0).toNat : Int)
  ·rw [if_pos h0, if_neg (by omega)]
   refine .inr ⟨_, _, rfl, rfl, by simp only; omega, by rw [List.drop_drop], fun c _ => rfl⟩
  ·rw [if_neg h0, if_pos (by omega)]
   exact .inl ⟨rfl, rfl⟩
theorem moreB_iff : ∀ b : Fin 256, moreB (UInt8.ofNat b.val) = true ↔ ((((UInt8.ofNat b.val).toNat : Int) = 63 ∨ ((UInt8.ofNat b.val).toNat : Int) = 43) ∨ ((UInt8.ofNat b.val).toNat : Int) = 42) := by decide +kernel
theorem moreB_eq (b : UInt8) : moreB b = true ↔ (((b.toNat : Int) = 63 ∨ (b.toNat : Int) = 43) ∨ (b.toNat : Int) = 42) := by
 have := moreB_iff ⟨b.toNat, b.toNat_lt⟩
 simpa using this
theorem hasM_R {s : List UInt8} {q : Nat} {S : Nat → Bool} : pHas (some (S, s.drop q)) ↔ HasM s q := by
 unfold pHas HasM
 simp only [cRest, Option.isSome_some, true_and, drop_getD, moreB_eq]
 have : s.drop q ≠ [] ↔ (q : Int) < (s.length : Int) := by
  rw [Ne, List.drop_eq_nil_iff]; omega
 rw [this]
theorem more_R {s : List UInt8} {q : Nat} {S : Nat → Bool} : pMore (some (S, s.drop q)) = moR s q ∧ pRest (some (S, s.drop q)) = s.drop (nxR s q) := by
 unfold pMore pRest moR nxR
 by_cases h : HasM s q
 ·rw [if_pos h, if_pos (hasM_R.2 h), if_pos h, if_pos (hasM_R.2 h)]
  simp only [cRest, drop_getD, List.drop_drop, and_self]
 ·rw [if_neg h, if_neg (fun h' => h (hasM_R.1 h')), if_neg h, if_neg (fun h' => h (hasM_R.1 h'))]
  exact ⟨rfl, rfl⟩
def PP (p : Place) (q : Piece) : Prop := p.fEnd = false ∧ p.fMore = q.More ∧ (q.More = 0 ∨ q.More = 42 ∨ q.More = 63) ∧ ∀ c : Nat, c < 37 → bitOf p.fSet (c : Int) = q.Set c
def BR (b : List Place) (q : List Piece) : Prop := ∃ body, b = body ++ [endP] ∧ Rel PP body q
theorem pp_of {S o : Nat → Bool} {m : Int} (hS : SetEq S o) (hm : m = 0 ∨ m = 42 ∨ m = 63) : PP { fSet := word64 S, fMore := m } { Set := o, More := m } :=
 ⟨rfl, rfl, hm, fun c hc => by rw [bitOf_word (by omega)]; exact hS c hc⟩
theorem branches_R {s : List UInt8} : ∀ {n k p : Nat} {ps : List Place} {cur : List Piece} {out : List (List Piece)}, s.length < n + p → s.length < k + p → p ≤ s.length → Rel PP ps cur →
  (brR n s p cur out = none ∧ parseB k ps (s.drop p) = none) ∨ ∃ bs bp, brR n s p cur out = some (out ++ bs) ∧ parseB k ps (s.drop p) = some bp ∧ Rel BR bp bs
 | 0, _, _, _, _, _, h, _, h', _ => by omega
 | _ + 1, 0, _, _, _, _, _, h, h', _ => by omega
 | n + 1, k + 1, p, ps, cur, out, hn, hk, hp, hR => by
  have hl := hR.length
  have e0 : (cur.length : Int) = 0 ↔ ps = [] := by rw [← List.length_eq_zero_iff]; omega
  by_cases hlt : p < s.length
  ·have hne : s.drop p ≠ [] := by rw [Ne, List.drop_eq_nil_iff]; omega
   by_cases h124 : ((s.getD p 0).toNat : Int) = 124
   ·by_cases hc : ps = []
    ·refine .inl ⟨brR_1 (by omega) (by omega) h124 (e0.2 hc), ?_⟩
     rw [parseB, if_pos (.inr (by rw [drop_getD]; exact h124)), if_pos hc]
    ·rw [brR_2 (by omega) (by omega) h124 (fun h => hc (e0.1 h)), parseB, if_pos (.inr (by rw [drop_getD]; exact h124)), if_neg hc, if_neg hne, List.drop_drop]
     rcases branches_R (s := s) (n := n) (k := k) (p := p + 1) (ps := []) (cur := []) (out := out ++ [cur]) (by omega) (by omega) (by omega) .nil with ⟨i1, i2⟩ | ⟨bs, bp, i1, i2, i3⟩
     ·exact .inl ⟨i1, by rw [i2]; rfl⟩
     ·exact .inr ⟨cur :: bs, (ps ++ [endP]) :: bp, by rw [Nat.add_sub_cancel, i1]; simp, by rw [i2]; rfl, .cons ⟨ps, rfl, hR⟩ i3⟩
   ·have hr : ¬ (s.drop p = [] ∨ (((s.drop p).getD 0 0).toNat : Int) = 124) := by
     rw [not_or, drop_getD]; exact ⟨hne, h124⟩
    rcases set_R hlt with ⟨a1, a2⟩ | ⟨S, q, a1, a2, a3, a4, a5⟩
    ·refine .inl ⟨brR_3 (by omega) (by omega) h124 a2, ?_⟩
     rw [parseB, if_neg hr, if_neg (by rw [a1]; simp)]
    ·subst a4
     have hsl := setR_le hlt a2
     obtain ⟨b1, b2⟩ := more_R (s := s) (q := (setR s p).2.1) (S := S)
     have hnx := nxR_le (s := s) a3
     rw [brR_4 (by omega) (by omega) h124 (by rw [a2]; simp), parseB, if_neg hr, if_pos (by rw [a1]; rfl), a1, b1, b2, Nat.add_sub_cancel]
     have hmo : moR s (setR s p).2.1 = 43 ∨ moR s (setR s p).2.1 = 0 ∨ moR s (setR s p).2.1 = 42 ∨ moR s (setR s p).2.1 = 63 := by
      unfold moR
      split
      ·rename_i h
       rcases h.2 with (h | h) | h <;> rw [h] <;> simp
      ·simp
     by_cases hm : moR s (setR s p).2.1 = 43
     ·rw [if_pos hm]
      have eA : addR cur (setR s p).1 (moR s (setR s p).2.1) = cur ++ [({ Set := (setR s p).1 } : Piece)] := by rw [addR, if_pos hm]
      have eT : moT (moR s (setR s p).2.1) = 42 := by rw [moT, if_pos hm]
      rw [eA, eT]
      exact branches_R (by omega) (by omega) (by omega) ((hR.snoc (pp_of a5 (.inl rfl))).snoc (pp_of a5 (.inr (.inl rfl))))
     ·rw [if_neg hm]
      have eA : addR cur (setR s p).1 (moR s (setR s p).2.1) = cur := by rw [addR, if_neg hm]
      have eT : moT (moR s (setR s p).2.1) = moR s (setR s p).2.1 := by rw [moT, if_neg hm]
      rw [eA, eT]
      exact branches_R (by omega) (by omega) (by omega) (hR.snoc (pp_of a5 (hmo.resolve_left hm)))
  ·have hd : s.drop p = [] := List.drop_of_length_le (by omega)
   by_cases hc : ps = []
   ·refine .inl ⟨brR_5 (by omega) (by omega) (e0.2 hc), ?_⟩
    rw [parseB, if_pos (.inl hd), if_pos hc]
   ·refine .inr ⟨[cur], [ps ++ [endP]], brR_6 (by omega) (by omega) (fun h => hc (e0.1 h)), ?_, .cons ⟨ps, rfl, hR⟩ .nil⟩
    rw [parseB, if_pos (.inl hd), if_neg hc, if_pos hd]
theorem branchesR_B (s : List UInt8) : (branchesR s = none ∧ branchesS s = none) ∨ ∃ bs bp, branchesR s = some bs ∧ branchesS s = some bp ∧ Rel BR bp bs := by
 have := branches_R (s := s) (n := s.length + 1) (k := s.length + 1) (p := 0) (ps := []) (cur := []) (out := []) (by omega) (by omega) (by omega) .nil
 exact this
end Go.Proofs.Ytjnjmnfacaakfaa
namespace Go.Proofs.Ytjnjmnfacaakfaa
open Go.Eng
def lenB (b : List (List Piece)) (k : Nat) : Nat := (b.getD k []).length + 1
def rowCl (p : List Piece) (S : Nat → Bool) : Nat → Nat → Bool
 | 0 => S
 | i + 1 => if rowCl p S i i = true ∧ (p.getD i dPiece).More ≠ 0 then upd (rowCl p S i) (i + 1) true else rowCl p S i
def clX (b : List (List Piece)) (X : Nat → Nat → Bool) (k i : Nat) : Nat → Nat → Bool := fun j => if j < k then rowCl (b.getD j []) (X j) (b.getD j []).length else if j = k then rowCl (b.getD k []) (X k) i else X j
theorem clX_at (b : List (List Piece)) (X : Nat → Nat → Bool) (k i : Nat) : clX b X k i k = rowCl (b.getD k []) (X k) i := by
 unfold clX
 rw [if_neg (Nat.lt_irrefl k), if_pos rfl]
theorem clX_0 (b : List (List Piece)) (X : Nat → Nat → Bool) : clX b X 0 0 = X := by
 funext j
 unfold clX
 by_cases h : j = 0
 ·subst h; rw [if_neg (by omega), if_pos rfl]; rfl
 ·rw [if_neg (by omega), if_neg h]
theorem clX_row (b : List (List Piece)) (X : Nat → Nat → Bool) (k : Nat) : clX b X k (b.getD k []).length = clX b X (k + 1) 0 := by
 funext j
 unfold clX
 by_cases h : j < k
 ·rw [if_pos h, if_pos (by omega)]
 ·by_cases h1 : j = k
  ·subst h1; rw [if_neg h, if_pos rfl, if_pos (by omega)]
  ·rw [if_neg h, if_neg h1, if_neg (by omega)]
   by_cases h2 : j = k + 1
   ·subst h2; rw [if_pos rfl]; rfl
   ·rw [if_neg h2]
theorem upd_row {X Y : Nat → Nat → Bool} {k : Nat} {r : Nat → Bool} (h : ∀ j, j ≠ k → X j = Y j) (h1 : r = Y k) : upd X k r = Y := by
 funext j
 unfold upd
 by_cases hj : j = k
 ·subst hj; rw [if_pos rfl, h1]
 ·rw [if_neg hj, h j hj]
theorem clX_set {b : List (List Piece)} {X : Nat → Nat → Bool} {k i : Nat} (h : rowCl (b.getD k []) (X k) i i = true ∧ ((b.getD k []).getD i dPiece).More ≠ 0) : upd (clX b X k i) k (upd (clX b X k i k) (i + 1) true) = clX b X k (i + 1) := by
 refine upd_row (fun j hj => ?_) ?_
 ·unfold clX
  by_cases h1 : j < k
  ·rw [if_pos h1, if_pos h1]
  ·rw [if_neg h1, if_neg h1, if_neg hj, if_neg hj]
 ·rw [clX_at, clX_at, rowCl, if_pos h]
theorem clX_no {b : List (List Piece)} {X : Nat → Nat → Bool} {k i : Nat} (h : ¬ (rowCl (b.getD k []) (X k) i i = true ∧ ((b.getD k []).getD i dPiece).More ≠ 0)) : clX b X k i = clX b X k (i + 1) := by
 funext j
 unfold clX
 rw [rowCl, if_neg h]
def closedX (b : List (List Piece)) (X : Nat → Nat → Bool) : Nat → Nat → Bool := clX b X b.length 0
def CG (F : PHeap) (b : List (List Piece)) (g : Nat → Value) (rb : Nat → Nat) (w0 : World) (X : Nat → Nat → Bool) (w : World) : Prop := Sub F w ∧ BRows F b.length g rb (lenB b) X w ∧ WroteAll b.length rb w0 w
theorem relV_p {F : PHeap} {x : PV} {v : Value} (h : RelV F noG (.p x) v) (hm : x.many = false) : RelP F x [v] := by
 cases h with
 | many h => rw [show (D.p x).many = x.many from rfl, hm] at h; cases h
 | one _ h => cases h with | p h => exact h
theorem refClosed_ok (b : List (List Piece)) (X : Nat → Nat → Bool) (F : PHeap) (w0 : World) (vb xv : Value) (g : Nat → Value) (rb : Nat → Nat) (hs : Sub F w0) (hb : RelV F noG (.p (eL (eL ePiece 38 dPiece) 1 [] b)) vb)
  (hx : RelP F (.lst 1 b.length (fun k => .v (g k))) [xv]) (hR : BRows F b.length g rb (lenB b) X w0) (hn : b.length < 1000) (hm : ∀ k, (b.getD k []).length < 1000) :
  Calls Try.prog 37 #[vb, xv] w0 fun e_ w_ => ∃ v, e_ = .returned v ∧ RelP F (.lst 1 b.length (fun k => .v (g k))) [v] ∧ CG F b g rb w0 (closedX b X) w_ := by
 refine calls_of_tq (F := F) (args := [eL (eL ePiece 38 dPiece) 1 [] b, .lst 1 b.length (fun k => .v (g k))]) (vs := [vb, xv]) (G := fun w_ => CG F b g rb w0 X w_) (fn := Try.f37) Try.func37 rfl (by kernel_rfl) rfl ?_ hs ⟨hs, hR, WroteAll.refl _ _ _⟩ ?_
 ·intro i p v h1 h2
  match i with
  | 0 => cases h1; cases h2; exact hb
  | 1 => cases h1; cases h2; exact .one rfl (.p hx)
 refine tq_seq (tq_reg (vc := []) (E' := [(0, none, .p ((eL (eL ePiece 38 dPiece) 1 []) b)), (1, none, .p (.lst 1 b.length (fun q_ => .v (g q_))))]) [] [0, 1] (by kernel_rfl) trivial (tq_then (tq_seq (tq_seq (tq_reg (vc := []) (E' := [(0, none, .p ((eL (eL ePiece 38 dPiece) 1 []) b)), (1, none, .p (.lst 1 b.length (fun q_ => .v (g q_)))), (5, none, vint .i64 0)]) [] [0, 1, 5] (by kernel_rfl) trivial (tq_then (tq_block (tq_loop (α := Nat) (fun z : Nat => (fun (k : Nat) => [(0, none, .p ((eL (eL ePiece 38 dPiece) 1 []) b)), (1, none, .p (.lst 1 b.length (fun q_ => .v (g q_)))), (5, none, vint .i64 (k : Int))]) z) (fun z : Nat => (fun (k : Nat) => (fun w_ => CG F b g rb w0 (clX b X k 0) w_)) z) (fun z : Nat => (fun (k : Nat) => (k ≤ b.length)) z) (fun z : Nat => (fun (k : Nat) => b.length - k) z) 0 ?_ ?_ ?_))))))))
 ·show (0 ≤ b.length)
  ·omega
 ·intro A_ W_ hS
  replace hS := qs_set (d := vint .i64 0) 5 (vint .i64 ((0 : Nat) : Int)) (by kernel_rfl) (eqD_int (by omega)) hS
  exact qs_g (by exact fun w_ h => by show CG F b g rb w0 (clX b X 0 0) w_; rw [clX_0]; exact h) (qs_proj (ts := [0, 1, 5]) (by kernel_rfl) hS)
 ·intro z hz
  revert z; intro k hz
  have hz : (k ≤ b.length) := hz
  have hi0_0 := hz
  have hmk := hm k
  refine tq_seq (tq_seq (tq_reg (vc := []) (E' := [(0, none, .p ((eL (eL ePiece 38 dPiece) 1 []) b)), (1, none, .p (.lst 1 b.length (fun q_ => .v (g q_)))), (5, none, vint .i64 (k : Int)), (10, none, vbool (decide ((k : Int) < (b.length : Int))))]) [] [0, 1, 5, 10] (by kernel_rfl) trivial (tq_then (tq_condP (decide ((k : Int) < (b.length : Int))) ((k : Int) < (b.length : Int)) (by simp) (by kernel_rfl) (fun hc1 => ?_) (fun hc1 => ?_)))))
  ·refine tq_skip (tq_then (tq_seq (tq_block (tq_seq (tq_reg (vc := []) (E' := [(0, none, .p ((eL (eL ePiece 38 dPiece) 1 []) b)), (1, none, .p (.lst 1 b.length (fun q_ => .v (g q_)))), (5, none, vint .i64 (k : Int)), (6, none, vint .i64 0)]) [] [0, 1, 5, 6] (by kernel_rfl) trivial (tq_then (tq_block (tq_loop (α := Nat) (fun z : Nat => (fun (i : Nat) => [(0, none, .p ((eL (eL ePiece 38 dPiece) 1 []) b)), (1, none, .p (.lst 1 b.length (fun q_ => .v (g q_)))), (5, none, vint .i64 (k : Int)), (6, none, vint .i64 (i : Int))]) z) (fun z : Nat => (fun (i : Nat) => (fun w_ => CG F b g rb w0 (clX b X k i) w_)) z) (fun z : Nat => (fun (i : Nat) => (i ≤ (b.getD k []).length)) z) (fun z : Nat => (fun (i : Nat) => (b.getD k []).length - i) z) 0 ?_ ?_ ?_))))))))
   ·show (0 ≤ (b.getD k []).length)
    ·omega
   ·intro A_ W_ hS
    replace hS := qs_set (d := vint .i64 0) 6 (vint .i64 ((0 : Nat) : Int)) (by kernel_rfl) (eqD_int (by omega)) hS
    exact qs_g (by exact fun _ h => h) (qs_proj (ts := [0, 1, 5, 6]) (by kernel_rfl) hS)
   ·intro z hz
    revert z; intro i hz
    have hz : (i ≤ (b.getD k []).length) := hz
    have hi1_0 := hz
    have hlb : lenB b k = (b.getD k []).length + 1 := rfl
    have hgl : (GL b.length (lenB b) (clX b X k i)).length = b.length := GL_len
    refine tq_seq (tq_seq (tq_reg (vc := [(0 : Int) ≤ (k : Int), (k : Int) < (b.length : Int)]) (E' := [(0, none, .p ((eL (eL ePiece 38 dPiece) 1 []) b)), (1, none, .p (.lst 1 b.length (fun q_ => .v (g q_)))), (5, none, vint .i64 (k : Int)), (6, none, vint .i64 (i : Int)), (19, none, vbool (decide ((i : Int) < (((b.getD k []).length : Nat) : Int))))]) [] [0, 1, 5, 6, 19] (by kernel_rfl) (al (by omega) (al (by omega) (trivial))) (tq_then (tq_condP (decide ((i : Int) < (((b.getD k []).length : Nat) : Int))) ((i : Int) < (((b.getD k []).length : Nat) : Int)) (by simp) (by kernel_rfl) (fun hc2 => ?_) (fun hc2 => ?_)))))
    ·refine tq_skip (tq_then (tq_seq (tq_block (tq_seq (tqg_read (vc := [(0 : Int) ≤ (k : Int), (k : Int) < ((GL b.length (lenB b) (clX b X k i)).length : Int), (0 : Int) ≤ (i : Int), (i : Int) < (((GL b.length (lenB b) (clX b X k i)).getD k []).length : Int), (((GL b.length (lenB b) (clX b X k i)).getD k []).getD i false) = (rowCl (b.getD k []) (X k) i i), (rowCl (b.getD k []) (X k) i i) = true → (rowCl (b.getD k []) (X k) i i) = true, (rowCl (b.getD k []) (X k) i i) = true → (rowCl (b.getD k []) (X k) i i) = true, (rowCl (b.getD k []) (X k) i i) = true → ((0 : Int) ≤ (k : Int)), (rowCl (b.getD k []) (X k) i i) = true → ((k : Int) < (b.length : Int)), (rowCl (b.getD k []) (X k) i i) = true → (rowCl (b.getD k []) (X k) i i) = true, (rowCl (b.getD k []) (X k) i i) = true → (rowCl (b.getD k []) (X k) i i) = true, (rowCl (b.getD k []) (X k) i i) = true → (rowCl (b.getD k []) (X k) i i) = true, (rowCl (b.getD k []) (X k) i i) = true → ((0 : Int) ≤ (i : Int)), (rowCl (b.getD k []) (X k) i i) = true → ((i : Int) < ((b.getD k []).length : Int)), (rowCl (b.getD k []) (X k) i i) = true → (rowCl (b.getD k []) (X k) i i) = true, (rowCl (b.getD k []) (X k) i i) = true → (rowCl (b.getD k []) (X k) i i) = true, (rowCl (b.getD k []) (X k) i i) = true → (rowCl (b.getD k []) (X k) i i) = true, (rowCl (b.getD k []) (X k) i i) = true → (rowCl (b.getD k []) (X k) i i) = true]) (E' := [(39, none, vbool ((rowCl (b.getD k []) (X k) i i) && ((((b.getD k []).getD i dPiece).More) != 0)))]) (E2 := [(0, none, .p ((eL (eL ePiece 38 dPiece) 1 []) b)), (1, none, .p (.lst 1 b.length (fun q_ => .v (g q_)))), (5, none, vint .i64 (k : Int)), (6, none, vint .i64 (i : Int))]) 1 (.p (.lst 1 b.length (fun q_ => .v (g q_)))) (.p ((eL (eL eB 1 false) 1 []) (GL b.length (lenB b) (clX b X k i)))) (fun w_ => addW F b.length rb w_) [(6, vbool (rowCl (b.getD k []) (X k) i i))] [39] [0, 1, 5, 6] (by kernel_rfl) (by kernel_rfl) (al (by omega) (al (by omega) (al (by omega) (al (by rw [GL_rlen (by omega)]; omega) (al ((GL_get (by omega) (by omega)).trans (congrFun (clX_at b X k i) i)) (al id (al id (al (by omega) (al (by omega) (al id (al id (al id (al (by omega) (al (by omega) (al id (al id (al id (al id (trivial))))))))))))))))))) (by kernel_rfl) (by kernel_rfl) (by kernel_rfl) (fun w_ hs_ hg => read_grid hs_ hg.2.1) (nq_pre (E' := [(0, none, .p ((eL (eL ePiece 38 dPiece) 1 []) b)), (1, none, .p (.lst 1 b.length (fun q_ => .v (g q_)))), (5, none, vint .i64 (k : Int)), (6, none, vint .i64 (i : Int)), (39, none, vbool ((rowCl (b.getD k []) (X k) i i) && ((((b.getD k []).getD i dPiece).More) != 0)))]) (fun a_ w_ hS => qs_proj (ts := [0, 1, 5, 6, 39]) (by kernel_rfl) hS) ?_))))))
     refine tq_then (tq_condP ((rowCl (b.getD k []) (X k) i i) && ((((b.getD k []).getD i dPiece).More) != 0)) (((rowCl (b.getD k []) (X k) i i) = true) ∧ ((((b.getD k []).getD i dPiece).More) ≠ 0)) (by simp) (by kernel_rfl) (fun hc3 => ?_) (fun hc3 => ?_))
     ·refine tqg_store (n := b.length) (e := 4) (rb := rb) (len := lenB b) (G' := (fun w_ => CG F b g rb w0 (clX b X k (i + 1)) w_)) (g := g) (f := (fun k_ i_ => .bool (clX b X k i k_ i_))) (f' := (fun i_ => .bool (upd (clX b X k i k) ((i + 1)) true i_))) (vc1 := [(0 : Int) ≤ (k : Int), (k : Int) < (b.length : Int)]) (vc2 := [(IntKind.wrap .i64 ((i : Int) + 1)) = (((i + 1) : Nat) : Int), (0 : Int) ≤ (((i + 1) : Nat) : Int), (((i + 1) : Nat) : Int) < (lenB b k : Int), (i + 1) < lenB b k]) (E1 := [(6, none, vint .i64 (i : Int)), (43, none, .p (.v (g k)))]) (f2 := upd (fun x_ => .p (.v ((fun i_ => .bool (clX b X k i k i_)) x_))) (i + 1) (.p (.v (.bool true)))) (E3 := [(0, none, .p ((eL (eL ePiece 38 dPiece) 1 []) b)), (1, none, .p (.lst 1 b.length (fun q_ => .v (g q_)))), (5, none, vint .i64 (k : Int)), (6, none, vint .i64 (i : Int))]) 4 43 k [] [(5, vint .i64 (((i + 1) : Nat) : Int))] [6, 43] [0, 1, 5, 6] (by kernel_rfl) (al (by omega) (al (by omega) (trivial))) (by kernel_rfl) (by omega) (by kernel_rfl) (al (wr64 (by omega) (by omega) (by omega)) (al (by omega) (al (by omega) (al (by omega) (trivial))))) ?_ (by kernel_rfl) (by kernel_rfl) (fun w_ hg => hg.2.1) (fun w_ w2_ hg hw hs_ hr => ⟨hs_, by have := BRows.set hr; rw [clX_set hc3] at this; exact this, hg.2.2.next (by omega) hw⟩) ?_
      ·intro i_ _; unfold upd; by_cases h_ : i_ = (i + 1) <;> simp [h_]
      refine qin_n ?_
      refine tq_then (tq_reg (vc := [(IntKind.wrap .i64 ((i : Int) + 1)) = (((i + 1) : Nat) : Int)]) (E' := [(0, none, .p ((eL (eL ePiece 38 dPiece) 1 []) b)), (1, none, .p (.lst 1 b.length (fun q_ => .v (g q_)))), (5, none, vint .i64 (k : Int)), (6, none, vint .i64 (((i + 1) : Nat) : Int))]) [(1, vint .i64 (((i + 1) : Nat) : Int))] [0, 1, 5, 6] (by kernel_rfl) (al (wr64 (by omega) (by omega) (by omega)) (trivial)) (qlp_end (i + 1) ?_ ?_ ?_))
      ·show ((i + 1) ≤ (b.getD k []).length)
       ·omega
      ·show (b.getD k []).length - (i + 1) < (b.getD k []).length - i
       omega
      ·intro A_ W_ hS
       exact qs_g (by first | exact fun w_ h => h | (exact fun w_ h => by show CG F b g rb w0 (clX b X k (i + 1)) w_; rw [← clX_no hc3]; exact h)) (qs_proj (ts := [0, 1, 5, 6]) (by kernel_rfl) hS)
     ·refine tq_skip (qin_n ?_)
      refine tq_then (tq_reg (vc := [(IntKind.wrap .i64 ((i : Int) + 1)) = (((i + 1) : Nat) : Int)]) (E' := [(0, none, .p ((eL (eL ePiece 38 dPiece) 1 []) b)), (1, none, .p (.lst 1 b.length (fun q_ => .v (g q_)))), (5, none, vint .i64 (k : Int)), (6, none, vint .i64 (((i + 1) : Nat) : Int))]) [(1, vint .i64 (((i + 1) : Nat) : Int))] [0, 1, 5, 6] (by kernel_rfl) (al (wr64 (by omega) (by omega) (by omega)) (trivial)) (qlp_end (i + 1) ?_ ?_ ?_))
      ·show ((i + 1) ≤ (b.getD k []).length)
       ·omega
      ·show (b.getD k []).length - (i + 1) < (b.getD k []).length - i
       omega
      ·intro A_ W_ hS
       exact qs_g (by first | exact fun w_ h => h | (exact fun w_ h => by show CG F b g rb w0 (clX b X k (i + 1)) w_; rw [← clX_no hc3]; exact h)) (qs_proj (ts := [0, 1, 5, 6]) (by kernel_rfl) hS)
    ·refine tq_exit (tqh_e ?_)
     refine tqh_e ?_
     refine qin_hit ?_
     refine qin_n ?_
     refine tq_then (tq_reg (vc := [(IntKind.wrap .i64 ((k : Int) + 1)) = (((k + 1) : Nat) : Int)]) (E' := [(0, none, .p ((eL (eL ePiece 38 dPiece) 1 []) b)), (1, none, .p (.lst 1 b.length (fun q_ => .v (g q_)))), (5, none, vint .i64 (((k + 1) : Nat) : Int))]) [(1, vint .i64 (((k + 1) : Nat) : Int))] [0, 1, 5] (by kernel_rfl) (al (wr64 (by omega) (by omega) (by omega)) (trivial)) (qlp_end (k + 1) ?_ ?_ ?_))
     ·show ((k + 1) ≤ b.length)
      ·omega
     ·show b.length - (k + 1) < b.length - k
      omega
     ·intro A_ W_ hS
      exact qs_g (by exact fun w_ h => by show CG F b g rb w0 (clX b X (k + 1) 0) w_; rw [← clX_row, show (b.getD k []).length = i by omega]; exact h) (qs_proj (ts := [0, 1, 5]) (by kernel_rfl) hS)
  ·refine tq_exit (tqh_e ?_)
   refine tqh_e ?_
   refine qin_hit ?_
   exact tq_then (tq_seq (tq_reg (vc := []) (E' := [(4, none, .p (.lst 1 b.length (fun q_ => .v (g q_))))]) [] [4] (by kernel_rfl) trivial (tq_then (tq_return (rs := Try.f37.results) (R := fun e_ w_ => ∃ v, e_ = .returned v ∧ RelP F (.lst 1 b.length (fun k => .v (g k))) [v] ∧ CG F b g rb w0 (closedX b X) w_) (vc := []) (ds := [.p (.lst 1 b.length (fun q_ => .v (g q_)))]) (by kernel_rfl) trivial (fun _ _ h => h) (fun w_ v_ hr hg => ⟨v_, rfl, relV_p hr rfl, by rw [closedX, show b.length = k by omega]; exact hg⟩)))))
end Go.Proofs.Ytjnjmnfacaakfaa
namespace Go.Proofs.Ytjnjmnfacaakfaa
open Go.Eng
theorem newGrid_0 {F : PHeap} {w0 : World} (hs : Sub F w0) (T e : Nat) (len : Nat → Nat) (f : Nat → Nat → Value) : NewGrid F w0 w0 (.slice none 0 0) T e 0 (fun _ => .bool false) (fun _ => 0) len f where
 grew := Grew.refl w0
 sub := hs
 rows := ⟨fun k hk => by omega, fun k hk => by omega, fun j k hj => by omega, fun k hk => by omega⟩
 new := fun k hk => by omega
 outer := .arr0
 apart := fun b hb => by cases hb
theorem refEmpty_ok (b : List (List Piece)) (F : PHeap) (w0 : World) (vb : Value) (hs : Sub F w0) (hb : RelV F noG (.p (eL (eL ePiece 38 dPiece) 1 [] b)) vb) (hn : b.length < 1000) (hm : ∀ k, (b.getD k []).length < 1000) :
  Calls Try.prog 36 #[vb] w0 fun e_ w_ => ∃ v g rb, e_ = .returned v ∧ NewGrid F w0 w_ v 29 4 b.length g rb (lenB b) (fun _ _ => .bool false) := by
 refine calls_of_tq (F := F) (args := [eL (eL ePiece 38 dPiece) 1 [] b]) (vs := [vb]) (G := (fun w_ => NewGrid F w0 w_ (.slice none 0 0) 29 4 0 (fun _ => .bool false) (fun _ => 0) (lenB b) (fun _ _ => .bool false))) (fn := Try.f36) Try.func36 rfl (by kernel_rfl) rfl ?_ hs (newGrid_0 hs _ _ _ _) ?_
 ·intro i p v h1 h2
  match i with
  | 0 => cases h1; cases h2; exact hb
 refine tq_seq (tq_reg (vc := []) (E' := [(0, none, .p ((eL (eL ePiece 38 dPiece) 1 []) b))]) [] [0] (by kernel_rfl) trivial (tq_then (tq_seq (tq_reg (vc := []) (E' := [(0, none, .p ((eL (eL ePiece 38 dPiece) 1 []) b)), (3, none, .p (.v (.slice none 0 0)))]) [] [0, 3] (by kernel_rfl) trivial (tq_then (tq_seq (tq_seq (tq_reg (vc := []) (E' := [(0, none, .p ((eL (eL ePiece 38 dPiece) 1 []) b)), (3, none, .p (.v (.slice none 0 0))), (4, none, vint .i64 0)]) [] [0, 3, 4] (by kernel_rfl) trivial (tq_then (tq_block (tq_loop (α := Nat × Value × (Nat → Value) × (Nat → Nat)) (fun z : Nat × Value × (Nat → Value) × (Nat → Nat) => (fun (k : Nat) (ov : Value) (g : Nat → Value) (rb : Nat → Nat) => [(0, none, .p ((eL (eL ePiece 38 dPiece) 1 []) b)), (3, none, .p (.v ov)), (4, none, vint .i64 (k : Int))]) z.1 z.2.1 z.2.2.1 z.2.2.2) (fun z : Nat × Value × (Nat → Value) × (Nat → Nat) => (fun (k : Nat) (ov : Value) (g : Nat → Value) (rb : Nat → Nat) => (fun w_ => NewGrid F w0 w_ ov 29 4 k g rb (lenB b) (fun _ _ => .bool false))) z.1 z.2.1 z.2.2.1 z.2.2.2) (fun z : Nat × Value × (Nat → Value) × (Nat → Nat) => (fun (k : Nat) (ov : Value) (g : Nat → Value) (rb : Nat → Nat) => (k ≤ b.length)) z.1 z.2.1 z.2.2.1 z.2.2.2) (fun z : Nat × Value × (Nat → Value) × (Nat → Nat) => (fun (k : Nat) (ov : Value) (g : Nat → Value) (rb : Nat → Nat) => b.length - k) z.1 z.2.1 z.2.2.1 z.2.2.2) (0, (.slice none 0 0), (fun _ => .bool false), (fun _ => 0)) ?_ ?_ ?_)))))))))))
 ·show (0 ≤ b.length)
  ·omega
 ·intro A_ W_ hS
  replace hS := qs_set (d := vint .i64 0) 4 (vint .i64 ((0 : Nat) : Int)) (by kernel_rfl) (eqD_int (by omega)) hS
  exact qs_g (by exact fun _ h => h) (qs_proj (ts := [0, 3, 4]) (by kernel_rfl) hS)
 ·intro z hz
  obtain ⟨k, ov, g, rb⟩ := z
  have hz : (k ≤ b.length) := hz
  have hi0_0 := hz
  have hmk := hm k
  refine tq_seq (tq_seq (tq_reg (vc := []) (E' := [(0, none, .p ((eL (eL ePiece 38 dPiece) 1 []) b)), (3, none, .p (.v ov)), (4, none, vint .i64 (k : Int)), (8, none, vbool (decide ((k : Int) < (b.length : Int))))]) [] [0, 3, 4, 8] (by kernel_rfl) trivial (tq_then (tq_condP (decide ((k : Int) < (b.length : Int))) ((k : Int) < (b.length : Int)) (by simp) (by kernel_rfl) (fun hc1 => ?_) (fun hc1 => ?_)))))
  ·refine tq_skip (tq_then (tq_seq (tq_block (tqg_push (T := 29) (e := 4) (m := ((b.getD k []).length + 1)) (n := k) (g := g) (rb := rb) (len := lenB b) (f := fun _ _ => .bool false) (w0 := w0) (ov := ov) (vc1 := [(0 : Int) ≤ (k : Int), (k : Int) < (b.length : Int), (IntKind.wrap .i64 ((((b.getD k []).length : Nat) : Int) + 1)) = ((((b.getD k []).length + 1) : Nat) : Int), (0 : Int) ≤ ((((b.getD k []).length + 1) : Nat) : Int), (((((b.getD k []).length + 1) : Nat) : Int) : Int) ≤ ((((b.getD k []).length + 1) : Nat) : Int), (1 : Int) * ((((b.getD k []).length + 1) : Nat) : Int) ≤ 140737488355328, (((((b.getD k []).length + 1) : Nat) : Int) : Int) ≤ 9223372036854775807]) (vcX := [(k + 1) * 24 ≤ 140737488355328]) (E1 := [(11, none, .p (.v ov)), (19, none, .own 1)]) (E3 := [(0, none, .p ((eL (eL ePiece 38 dPiece) 1 []) b)), (4, none, vint .i64 (k : Int))]) (fr := fun _ => .p (.v (.bool false))) (fl := fun j_ => ([.own 0] : List D).getD j_ default) 9 11 19 20 3 [(6, vint .i64 ((((b.getD k []).length + 1) : Nat) : Int))] [11, 19] [0, 4] (by kernel_rfl) (al (by omega) (al (by omega) (al (wr64 (by omega) (by omega) (by omega)) (al (by omega) (al (by omega) (al (by omega) (al (by omega) (trivial)))))))) (by kernel_rfl) (by kernel_rfl) (by rfl) (by rfl) (by omega) (fun _ _ => rfl) (by rfl) (by rfl) (by rfl) (by kernel_rfl) ?_ (fun _ _ _ _ => by kernel_rfl) (al (by omega) (trivial)) (fun _ => by kernel_rfl) (by kernel_rfl) (by kernel_rfl) (fun w_ hg => hg) ?_))))
   ·intro x_ hx_; simp [Op.operands, Call.operands] at hx_; rcases hx_ with rfl | rfl <;> simp
   intro v_ gk_ rk_
   refine nq_pre (E' := [(0, none, .p ((eL (eL ePiece 38 dPiece) 1 []) b)), (3, none, .p (.v v_)), (4, none, vint .i64 (k : Int))]) (fun a_ w_ hS => qs_proj (ts := [0, 3, 4]) (by kernel_rfl) hS) ?_
   refine qin_n ?_
   refine tq_then (tq_reg (vc := [(IntKind.wrap .i64 ((k : Int) + 1)) = (((k + 1) : Nat) : Int)]) (E' := [(0, none, .p ((eL (eL ePiece 38 dPiece) 1 []) b)), (3, none, .p (.v v_)), (4, none, vint .i64 (((k + 1) : Nat) : Int))]) [(1, vint .i64 (((k + 1) : Nat) : Int))] [0, 3, 4] (by kernel_rfl) (al (wr64 (by omega) (by omega) (by omega)) (trivial)) (qlp_end ((k + 1), v_, (upd g k gk_), (upd rb k rk_)) ?_ ?_ ?_))
   ·show ((k + 1) ≤ b.length)
    ·omega
   ·show b.length - (k + 1) < b.length - k
    omega
   ·intro A_ W_ hS
    exact qs_g (by exact fun _ h => h) (qs_proj (ts := [0, 3, 4]) (by kernel_rfl) hS)
  ·refine tq_exit (tqh_e ?_)
   refine tqh_e ?_
   refine qin_hit ?_
   exact tq_then (tq_seq (tq_reg (vc := []) (E' := [(2, none, .p (.v ov))]) [] [2] (by kernel_rfl) trivial (tq_then (tq_return (rs := Try.f36.results) (R := fun e_ w_ => ∃ v g rb, e_ = .returned v ∧ NewGrid F w0 w_ v 29 4 b.length g rb (lenB b) (fun _ _ => .bool false)) (vc := []) (ds := [.p (.v ov)]) (by kernel_rfl) trivial (fun _ _ h => h) (fun w_ v_ hr hg => by rw [v_val hr, show b.length = k by omega]; exact ⟨ov, g, rb, rfl, hg⟩)))))
end Go.Proofs.Ytjnjmnfacaakfaa
namespace Go.Proofs.Ytjnjmnfacaakfaa
open Go.Eng
def rowSp (p : List Piece) (S : Nat → Bool) (c : Nat) : Nat → Nat → Bool
 | 0 => fun _ => false
 | i + 1 => if S i = true ∧ (p.getD i dPiece).Set c = true then upd (rowSp p S c i) (if (p.getD i dPiece).More = 42 then i else i + 1) true else rowSp p S c i
def spX (b : List (List Piece)) (X : Nat → Nat → Bool) (c k i : Nat) : Nat → Nat → Bool := fun j => if j < k then rowSp (b.getD j []) (X j) c (b.getD j []).length else if j = k then rowSp (b.getD k []) (X k) c i else fun _ => false
section
variable {b : List (List Piece)} {X : Nat → Nat → Bool} {c k i : Nat}
theorem spX_at : spX b X c k i k = rowSp (b.getD k []) (X k) c i := by
 unfold spX
 rw [if_neg (Nat.lt_irrefl k), if_pos rfl]
theorem spX_0 : spX b X c 0 0 = fun _ _ => false := by
 funext j
 unfold spX
 by_cases h : j = 0
 ·subst h; rw [if_neg (by omega), if_pos rfl]; rfl
 ·rw [if_neg (by omega), if_neg h]
theorem spX_row : spX b X c k (b.getD k []).length = spX b X c (k + 1) 0 := by
 funext j
 unfold spX
 by_cases h : j < k
 ·rw [if_pos h, if_pos (by omega)]
 ·by_cases h1 : j = k
  ·subst h1; rw [if_neg h, if_pos rfl, if_pos (by omega)]
  ·rw [if_neg h, if_neg h1, if_neg (by omega)]
   by_cases h2 : j = k + 1
   ·subst h2; rw [if_pos rfl]; rfl
   ·rw [if_neg h2]
theorem spX_set {m : Nat} (h : X k i = true ∧ ((b.getD k []).getD i dPiece).Set c = true) (hm : m = if ((b.getD k []).getD i dPiece).More = 42 then i else i + 1) : upd (spX b X c k i) k (upd (spX b X c k i k) m true) = spX b X c k (i + 1) := by
 refine upd_row (fun j hj => ?_) ?_
 ·unfold spX
  by_cases h1 : j < k
  ·rw [if_pos h1, if_pos h1]
  ·rw [if_neg h1, if_neg h1, if_neg hj, if_neg hj]
 ·rw [spX_at, spX_at, rowSp, if_pos h, hm]
theorem spX_no (h : ¬ (X k i = true ∧ ((b.getD k []).getD i dPiece).Set c = true)) : spX b X c k i = spX b X c k (i + 1) := by
 funext j
 unfold spX
 rw [rowSp, if_neg h]
end
def stepX (b : List (List Piece)) (X : Nat → Nat → Bool) (c : Nat) : Nat → Nat → Bool := closedX b (spX b X c b.length 0)
theorem wroteAll_trans {n : Nat} {rb : Nat → Nat} {w0 w w' : World} (h : WroteAll n rb w0 w) (k : WroteAll n rb w w') : WroteAll n rb w0 w' :=
 ⟨k.os.trans h.os, k.tape.trans h.tape, k.output.trans h.output, Nat.le_trans h.size k.size, fun b hb hne => (k.block b (Nat.lt_of_lt_of_le hb h.size) hne).trans (h.block b hb hne)⟩
theorem go_sp {a s : Bool} (h : ¬ (a = false ∨ s = false)) : a = true ∧ s = true := by
 rw [not_or] at h
 exact ⟨by cases a <;> simp_all, by cases s <;> simp_all⟩
theorem no_sp {a s : Bool} (h : a = false ∨ s = false) : ¬ (a = true ∧ s = true) := by
 rintro ⟨rfl, rfl⟩
 simp at h
theorem refStep_ok (b : List (List Piece)) (X : Nat → Nat → Bool) (c : Nat) (hc37 : c < 37) (hn : b.length < 1000) (hm : ∀ k, (b.getD k []).length < 1000) :
  Pure Try.prog 38 [eL (eL ePiece 38 dPiece) 1 [] b, eL (eL eB 1 false) 1 [] (GL b.length (lenB b) X), .v (.int .i64 (c : Int))] (.p (eL (eL eB 1 false) 1 [] (GL b.length (lenB b) (stepX b X c)))) := by
 intro F w0 vs hs hlen hrel
 refine calls_of_tq (F := F) (G := fun w_ => w_ = w0) (fn := Try.f38) Try.func38 rfl (by kernel_rfl) hlen hrel hs rfl ?_
 refine tq_seq (tq_reg (vc := []) (E' := [(0, none, .p ((eL (eL ePiece 38 dPiece) 1 []) b)), (1, none, .p ((eL (eL eB 1 false) 1 []) (GL b.length (lenB b) X))), (2, none, vint .i64 (c : Int))]) [] [0, 1, 2] (by kernel_rfl) trivial (tq_then (tq_seq (tq_callF (vc1 := []) (E1 := [(0, none, .p ((eL (eL ePiece 38 dPiece) 1 []) b)), (1, none, .p ((eL (eL eB 1 false) 1 []) (GL b.length (lenB b) X))), (2, none, vint .i64 (c : Int)), (10, none, .p ((eL (eL ePiece 38 dPiece) 1 []) b))]) (f := 36) (t := 11) 1 [] [0, 1, 2, 10] (by kernel_rfl) trivial (by rfl) (by rfl) (by rfl) (by rfl) (by kernel_rfl) (fun v_ w_ => ∃ g rb, NewGrid F w0 w_ v_ 29 4 b.length g rb (lenB b) (fun _ _ => .bool false)) ?_ ?_))))
 ·intro a_ w_ hS_
  obtain rfl : w_ = w0 := hS_.g
  obtain ⟨vb_, e1_, e2_⟩ := qs_slot (t := 10) (by kernel_rfl) hS_
  have h_ := refEmpty_ok b F w_ vb_ hS_.s e2_ hn hm
  rw [← eval_tmp e1_] at h_
  rw [show (#[Operand.tmp 10].map a_.eval) = #[a_.eval (.tmp 10)] from by simp]
  refine h_.mono ?_
  rintro e_ w2_ ⟨v_, g_, rb_, rfl, hN_⟩
  exact ⟨v_, rfl, g_, rb_, hN_⟩
 rintro a1_ v1_ w1 hE1_ hN1_ hD1_ ⟨g, rb, hNG⟩
 refine suffix_q (F2 := addO F v1_ w1) (E' := [(0, none, .p ((eL (eL ePiece 38 dPiece) 1 []) b)), (1, none, .p ((eL (eL eB 1 false) 1 []) (GL b.length (lenB b) X))), (2, none, vint .i64 (c : Int)), (7, none, .p (.lst 1 b.length (fun q_ => .v (g q_))))]) (G2 := fun w_ => CG (addO F v1_ w1) b g rb w1 (spX b X c 0 0) w_) (d := .p (.lst 1 b.length (fun q_ => .v (g q_)))) (vc := []) [] [0, 1, 2, 7] (by kernel_rfl) trivial (by kernel_rfl) hE1_ hN1_ hD1_ hNG.ge hNG.sub' (.one rfl (.p hNG.rest)) ⟨hNG.sub', by rw [spX_0]; exact hNG.rows', WroteAll.refl _ _ _⟩ ?_
 have hF2 : ∀ b_, b_ < w0.heap.size → addO F v1_ w1 b_ = F b_ := fun b_ hb_ => by unfold addO; rw [if_neg]; intro h_; have := (hNG.apart b_ h_).1; omega
 have hgrew := hNG.grew
 have hnew := hNG.new
 generalize addO F v1_ w1 = F2 at hF2 ⊢
 refine tq_then (tq_seq (tq_seq (tq_reg (vc := []) (E' := [(0, none, .p ((eL (eL ePiece 38 dPiece) 1 []) b)), (1, none, .p ((eL (eL eB 1 false) 1 []) (GL b.length (lenB b) X))), (2, none, vint .i64 (c : Int)), (7, none, .p (.lst 1 b.length (fun q_ => .v (g q_)))), (8, none, vint .i64 0)]) [] [0, 1, 2, 7, 8] (by kernel_rfl) trivial (tq_then (tq_block (tq_loop (α := Nat) (fun z : Nat => (fun (k : Nat) => [(0, none, .p ((eL (eL ePiece 38 dPiece) 1 []) b)), (1, none, .p ((eL (eL eB 1 false) 1 []) (GL b.length (lenB b) X))), (2, none, vint .i64 (c : Int)), (7, none, .p (.lst 1 b.length (fun q_ => .v (g q_)))), (8, none, vint .i64 (k : Int))]) z) (fun z : Nat => (fun (k : Nat) => (fun w_ => CG F2 b g rb w1 (spX b X c k 0) w_)) z) (fun z : Nat => (fun (k : Nat) => (k ≤ b.length)) z) (fun z : Nat => (fun (k : Nat) => b.length - k) z) 0 ?_ ?_ ?_))))))
 ·show (0 ≤ b.length)
  ·omega
 ·intro A_ W_ hS
  replace hS := qs_set (d := vint .i64 0) 8 (vint .i64 ((0 : Nat) : Int)) (by kernel_rfl) (eqD_int (by omega)) hS
  exact qs_g (by exact fun _ h => h) (qs_proj (ts := [0, 1, 2, 7, 8]) (by kernel_rfl) hS)
 ·intro z hz
  revert z; intro k hz
  have hz : (k ≤ b.length) := hz
  have hi0_0 := hz
  have hmk := hm k
  refine tq_seq (tq_seq (tq_reg (vc := []) (E' := [(0, none, .p ((eL (eL ePiece 38 dPiece) 1 []) b)), (1, none, .p ((eL (eL eB 1 false) 1 []) (GL b.length (lenB b) X))), (2, none, vint .i64 (c : Int)), (7, none, .p (.lst 1 b.length (fun q_ => .v (g q_)))), (8, none, vint .i64 (k : Int)), (15, none, vbool (decide ((k : Int) < (b.length : Int))))]) [] [0, 1, 2, 7, 8, 15] (by kernel_rfl) trivial (tq_then (tq_condP (decide ((k : Int) < (b.length : Int))) ((k : Int) < (b.length : Int)) (by simp) (by kernel_rfl) (fun hc1 => ?_) (fun hc1 => ?_)))))
  ·refine tq_skip (tq_then (tq_seq (tq_block (tq_seq (tq_reg (vc := []) (E' := [(0, none, .p ((eL (eL ePiece 38 dPiece) 1 []) b)), (1, none, .p ((eL (eL eB 1 false) 1 []) (GL b.length (lenB b) X))), (2, none, vint .i64 (c : Int)), (7, none, .p (.lst 1 b.length (fun q_ => .v (g q_)))), (8, none, vint .i64 (k : Int)), (9, none, vint .i64 0)]) [] [0, 1, 2, 7, 8, 9] (by kernel_rfl) trivial (tq_then (tq_block (tq_loop (α := Nat) (fun z : Nat => (fun (i : Nat) => [(0, none, .p ((eL (eL ePiece 38 dPiece) 1 []) b)), (1, none, .p ((eL (eL eB 1 false) 1 []) (GL b.length (lenB b) X))), (2, none, vint .i64 (c : Int)), (7, none, .p (.lst 1 b.length (fun q_ => .v (g q_)))), (8, none, vint .i64 (k : Int)), (9, none, vint .i64 (i : Int))]) z) (fun z : Nat => (fun (i : Nat) => (fun w_ => CG F2 b g rb w1 (spX b X c k i) w_)) z) (fun z : Nat => (fun (i : Nat) => (i ≤ (b.getD k []).length)) z) (fun z : Nat => (fun (i : Nat) => (b.getD k []).length - i) z) 0 ?_ ?_ ?_))))))))
   ·show (0 ≤ (b.getD k []).length)
    ·omega
   ·intro A_ W_ hS
    replace hS := qs_set (d := vint .i64 0) 9 (vint .i64 ((0 : Nat) : Int)) (by kernel_rfl) (eqD_int (by omega)) hS
    exact qs_g (by exact fun _ h => h) (qs_proj (ts := [0, 1, 2, 7, 8, 9]) (by kernel_rfl) hS)
   ·intro z hz
    revert z; intro i hz
    have hz : (i ≤ (b.getD k []).length) := hz
    have hi1_0 := hz
    have hlb : lenB b k = (b.getD k []).length + 1 := rfl
    have hgl : (GL b.length (lenB b) X).length = b.length := GL_len
    refine tq_seq (tq_seq (tq_reg (vc := [(0 : Int) ≤ (k : Int), (k : Int) < (b.length : Int)]) (E' := [(0, none, .p ((eL (eL ePiece 38 dPiece) 1 []) b)), (1, none, .p ((eL (eL eB 1 false) 1 []) (GL b.length (lenB b) X))), (2, none, vint .i64 (c : Int)), (7, none, .p (.lst 1 b.length (fun q_ => .v (g q_)))), (8, none, vint .i64 (k : Int)), (9, none, vint .i64 (i : Int)), (24, none, vbool (decide ((i : Int) < (((b.getD k []).length : Nat) : Int))))]) [] [0, 1, 2, 7, 8, 9, 24] (by kernel_rfl) (al (by omega) (al (by omega) (trivial))) (tq_then (tq_condP (decide ((i : Int) < (((b.getD k []).length : Nat) : Int))) ((i : Int) < (((b.getD k []).length : Nat) : Int)) (by simp) (by kernel_rfl) (fun hc2 => ?_) (fun hc2 => ?_)))))
    ·refine tq_skip (tq_then (tq_seq (tq_block (tq_seq (tq_seq (tq_reg (vc := [(0 : Int) ≤ (k : Int), (k : Int) < ((GL b.length (lenB b) X).length : Int), (0 : Int) ≤ (i : Int), (i : Int) < (((GL b.length (lenB b) X).getD k []).length : Int), (((GL b.length (lenB b) X).getD k []).getD i false) = (X k i), (!(!(X k i))) = true → (!(!(X k i))) = true, (!(!(X k i))) = true → (!(!(X k i))) = true, (!(!(X k i))) = true → ((0 : Int) ≤ (k : Int)), (!(!(X k i))) = true → ((k : Int) < (b.length : Int)), (!(!(X k i))) = true → (!(!(X k i))) = true, (!(!(X k i))) = true → (!(!(X k i))) = true, (!(!(X k i))) = true → (!(!(X k i))) = true, (!(!(X k i))) = true → ((0 : Int) ≤ (i : Int)), (!(!(X k i))) = true → ((i : Int) < ((b.getD k []).length : Int)), (!(!(X k i))) = true → (!(!(X k i))) = true, (!(!(X k i))) = true → (!(!(X k i))) = true, (!(!(X k i))) = true → (!(!(X k i))) = true, (!(!(X k i))) = true → ((0 : Int) ≤ (c : Int)), (!(!(X k i))) = true → ((c : Int) < (37 : Int)), (!(!(X k i))) = true → (!(!(X k i))) = true, (!(!(X k i))) = true → (!(!(X k i))) = true, (!(!(X k i))) = true → (!(!(X k i))) = true]) (E' := [(0, none, .p ((eL (eL ePiece 38 dPiece) 1 []) b)), (1, none, .p ((eL (eL eB 1 false) 1 []) (GL b.length (lenB b) X))), (2, none, vint .i64 (c : Int)), (7, none, .p (.lst 1 b.length (fun q_ => .v (g q_)))), (8, none, vint .i64 (k : Int)), (9, none, vint .i64 (i : Int)), (47, none, vbool ((!(X k i)) || (!((((b.getD k []).getD i dPiece).Set) c))))]) [(6, vbool (X k i))] [0, 1, 2, 7, 8, 9, 47] (by kernel_rfl) (al (by omega) (al (by omega) (al (by omega) (al (by rw [GL_rlen (by omega)]; omega) (al (GL_get (by omega) (by omega)) (al id (al id (al (by omega) (al (by omega) (al id (al id (al id (al (by omega) (al (by omega) (al id (al id (al id (al (by omega) (al (by omega) (al id (al id (al id (trivial))))))))))))))))))))))) (tq_then (tq_condP ((!(X k i)) || (!((((b.getD k []).getD i dPiece).Set) c))) (((X k i) = false) ∨ (((((b.getD k []).getD i dPiece).Set) c) = false)) (by simp) (by kernel_rfl) (fun hc3 => ?_) (fun hc3 => ?_)))))))))
     ·refine tq_exit (tqh_e ?_)
      refine qin_hit ?_
      refine tq_then (tq_reg (vc := [(IntKind.wrap .i64 ((i : Int) + 1)) = (((i + 1) : Nat) : Int)]) (E' := [(0, none, .p ((eL (eL ePiece 38 dPiece) 1 []) b)), (1, none, .p ((eL (eL eB 1 false) 1 []) (GL b.length (lenB b) X))), (2, none, vint .i64 (c : Int)), (7, none, .p (.lst 1 b.length (fun q_ => .v (g q_)))), (8, none, vint .i64 (k : Int)), (9, none, vint .i64 (((i + 1) : Nat) : Int))]) [(1, vint .i64 (((i + 1) : Nat) : Int))] [0, 1, 2, 7, 8, 9] (by kernel_rfl) (al (wr64 (by omega) (by omega) (by omega)) (trivial)) (qlp_end (i + 1) ?_ ?_ ?_))
      ·show ((i + 1) ≤ (b.getD k []).length)
       ·omega
      ·show (b.getD k []).length - (i + 1) < (b.getD k []).length - i
       omega
      ·intro A_ W_ hS
       exact qs_g (by first | exact fun w_ h => h | (exact fun w_ h => by show CG F2 b g rb w1 (spX b X c k (i + 1)) w_; rw [← spX_no (no_sp hc3)]; exact h)) (qs_proj (ts := [0, 1, 2, 7, 8, 9]) (by kernel_rfl) hS)
     ·refine tq_skip (tq_then (tq_seq (tq_reg (vc := [(0 : Int) ≤ (k : Int), (k : Int) < (b.length : Int), (0 : Int) ≤ (i : Int), (i : Int) < ((b.getD k []).length : Int)]) (E' := [(0, none, .p ((eL (eL ePiece 38 dPiece) 1 []) b)), (1, none, .p ((eL (eL eB 1 false) 1 []) (GL b.length (lenB b) X))), (2, none, vint .i64 (c : Int)), (7, none, .p (.lst 1 b.length (fun q_ => .v (g q_)))), (8, none, vint .i64 (k : Int)), (9, none, vint .i64 (i : Int)), (56, none, vbool ((((b.getD k []).getD i dPiece).More) == 42))]) [] [0, 1, 2, 7, 8, 9, 56] (by kernel_rfl) (al (by omega) (al (by omega) (al (by omega) (al (by omega) (trivial))))) (tq_then (tq_condP ((((b.getD k []).getD i dPiece).More) == 42) ((((b.getD k []).getD i dPiece).More) = 42) (by simp) (by kernel_rfl) (fun hc4 => ?_) (fun hc4 => ?_))))))
      ·refine tqg_store (n := b.length) (e := 4) (rb := rb) (len := lenB b) (G' := (fun w_ => CG F2 b g rb w1 (spX b X c k (i + 1)) w_)) (g := g) (f := (fun k_ i_ => .bool (spX b X c k i k_ i_))) (f' := (fun i_ => .bool (upd (spX b X c k i k) (i) true i_))) (vc1 := [(0 : Int) ≤ (k : Int), (k : Int) < (b.length : Int)]) (vc2 := [(0 : Int) ≤ (i : Int), (i : Int) < (lenB b k : Int), i < lenB b k]) (E1 := [(9, none, vint .i64 (i : Int)), (60, none, .p (.v (g k)))]) (f2 := upd (fun x_ => .p (.v ((fun i_ => .bool (spX b X c k i k i_)) x_))) i (.p (.v (.bool true)))) (E3 := [(0, none, .p ((eL (eL ePiece 38 dPiece) 1 []) b)), (1, none, .p ((eL (eL eB 1 false) 1 []) (GL b.length (lenB b) X))), (2, none, vint .i64 (c : Int)), (7, none, .p (.lst 1 b.length (fun q_ => .v (g q_)))), (8, none, vint .i64 (k : Int)), (9, none, vint .i64 (i : Int))]) 4 60 k [] [] [9, 60] [0, 1, 2, 7, 8, 9] (by kernel_rfl) (al (by omega) (al (by omega) (trivial))) (by kernel_rfl) (by omega) (by kernel_rfl) (al (by omega) (al (by omega) (al (by omega) (trivial)))) ?_ (by kernel_rfl) (by kernel_rfl) (fun w_ hg => hg.2.1) (fun w_ w2_ hg hw hs_ hr => ⟨hs_, by have := BRows.set hr; rw [spX_set (go_sp hc3) (by rw [if_pos hc4])] at this; exact this, hg.2.2.next (by omega) hw⟩) ?_
       ·intro i_ _; unfold upd; by_cases h_ : i_ = i <;> simp [h_]
       refine qin_n ?_
       refine tq_then (tq_reg (vc := [(IntKind.wrap .i64 ((i : Int) + 1)) = (((i + 1) : Nat) : Int)]) (E' := [(0, none, .p ((eL (eL ePiece 38 dPiece) 1 []) b)), (1, none, .p ((eL (eL eB 1 false) 1 []) (GL b.length (lenB b) X))), (2, none, vint .i64 (c : Int)), (7, none, .p (.lst 1 b.length (fun q_ => .v (g q_)))), (8, none, vint .i64 (k : Int)), (9, none, vint .i64 (((i + 1) : Nat) : Int))]) [(1, vint .i64 (((i + 1) : Nat) : Int))] [0, 1, 2, 7, 8, 9] (by kernel_rfl) (al (wr64 (by omega) (by omega) (by omega)) (trivial)) (qlp_end (i + 1) ?_ ?_ ?_))
       ·show ((i + 1) ≤ (b.getD k []).length)
        ·omega
       ·show (b.getD k []).length - (i + 1) < (b.getD k []).length - i
        omega
       ·intro A_ W_ hS
        exact qs_g (by first | exact fun w_ h => h | (exact fun w_ h => by show CG F2 b g rb w1 (spX b X c k (i + 1)) w_; rw [← spX_no (no_sp hc3)]; exact h)) (qs_proj (ts := [0, 1, 2, 7, 8, 9]) (by kernel_rfl) hS)
      ·refine tqg_store (n := b.length) (e := 4) (rb := rb) (len := lenB b) (G' := (fun w_ => CG F2 b g rb w1 (spX b X c k (i + 1)) w_)) (g := g) (f := (fun k_ i_ => .bool (spX b X c k i k_ i_))) (f' := (fun i_ => .bool (upd (spX b X c k i k) ((i + 1)) true i_))) (vc1 := [(0 : Int) ≤ (k : Int), (k : Int) < (b.length : Int)]) (vc2 := [(IntKind.wrap .i64 ((i : Int) + 1)) = (((i + 1) : Nat) : Int), (0 : Int) ≤ (((i + 1) : Nat) : Int), (((i + 1) : Nat) : Int) < (lenB b k : Int), (i + 1) < lenB b k]) (E1 := [(9, none, vint .i64 (i : Int)), (66, none, .p (.v (g k)))]) (f2 := upd (fun x_ => .p (.v ((fun i_ => .bool (spX b X c k i k i_)) x_))) (i + 1) (.p (.v (.bool true)))) (E3 := [(0, none, .p ((eL (eL ePiece 38 dPiece) 1 []) b)), (1, none, .p ((eL (eL eB 1 false) 1 []) (GL b.length (lenB b) X))), (2, none, vint .i64 (c : Int)), (7, none, .p (.lst 1 b.length (fun q_ => .v (g q_)))), (8, none, vint .i64 (k : Int)), (9, none, vint .i64 (i : Int))]) 4 66 k [] [(5, vint .i64 (((i + 1) : Nat) : Int))] [9, 66] [0, 1, 2, 7, 8, 9] (by kernel_rfl) (al (by omega) (al (by omega) (trivial))) (by kernel_rfl) (by omega) (by kernel_rfl) (al (wr64 (by omega) (by omega) (by omega)) (al (by omega) (al (by omega) (al (by omega) (trivial))))) ?_ (by kernel_rfl) (by kernel_rfl) (fun w_ hg => hg.2.1) (fun w_ w2_ hg hw hs_ hr => ⟨hs_, by have := BRows.set hr; rw [spX_set (go_sp hc3) (by rw [if_neg hc4])] at this; exact this, hg.2.2.next (by omega) hw⟩) ?_
       ·intro i_ _; unfold upd; by_cases h_ : i_ = (i + 1) <;> simp [h_]
       refine qin_n ?_
       refine tq_then (tq_reg (vc := [(IntKind.wrap .i64 ((i : Int) + 1)) = (((i + 1) : Nat) : Int)]) (E' := [(0, none, .p ((eL (eL ePiece 38 dPiece) 1 []) b)), (1, none, .p ((eL (eL eB 1 false) 1 []) (GL b.length (lenB b) X))), (2, none, vint .i64 (c : Int)), (7, none, .p (.lst 1 b.length (fun q_ => .v (g q_)))), (8, none, vint .i64 (k : Int)), (9, none, vint .i64 (((i + 1) : Nat) : Int))]) [(1, vint .i64 (((i + 1) : Nat) : Int))] [0, 1, 2, 7, 8, 9] (by kernel_rfl) (al (wr64 (by omega) (by omega) (by omega)) (trivial)) (qlp_end (i + 1) ?_ ?_ ?_))
       ·show ((i + 1) ≤ (b.getD k []).length)
        ·omega
       ·show (b.getD k []).length - (i + 1) < (b.getD k []).length - i
        omega
       ·intro A_ W_ hS
        exact qs_g (by first | exact fun w_ h => h | (exact fun w_ h => by show CG F2 b g rb w1 (spX b X c k (i + 1)) w_; rw [← spX_no (no_sp hc3)]; exact h)) (qs_proj (ts := [0, 1, 2, 7, 8, 9]) (by kernel_rfl) hS)
    ·refine tq_exit (tqh_e ?_)
     refine tqh_e ?_
     refine qin_hit ?_
     refine qin_n ?_
     refine tq_then (tq_reg (vc := [(IntKind.wrap .i64 ((k : Int) + 1)) = (((k + 1) : Nat) : Int)]) (E' := [(0, none, .p ((eL (eL ePiece 38 dPiece) 1 []) b)), (1, none, .p ((eL (eL eB 1 false) 1 []) (GL b.length (lenB b) X))), (2, none, vint .i64 (c : Int)), (7, none, .p (.lst 1 b.length (fun q_ => .v (g q_)))), (8, none, vint .i64 (((k + 1) : Nat) : Int))]) [(1, vint .i64 (((k + 1) : Nat) : Int))] [0, 1, 2, 7, 8] (by kernel_rfl) (al (wr64 (by omega) (by omega) (by omega)) (trivial)) (qlp_end (k + 1) ?_ ?_ ?_))
     ·show ((k + 1) ≤ b.length)
      ·omega
     ·show b.length - (k + 1) < b.length - k
      omega
     ·intro A_ W_ hS
      exact qs_g (by exact fun w_ h => by show CG F2 b g rb w1 (spX b X c (k + 1) 0) w_; rw [← spX_row, show (b.getD k []).length = i by omega]; exact h) (qs_proj (ts := [0, 1, 2, 7, 8]) (by kernel_rfl) hS)
  ·refine tq_exit (tqh_e ?_)
   refine tqh_e ?_
   refine qin_hit ?_
   refine tq_then (tq_seq (tq_callF (vc1 := []) (E1 := [(70, none, .p ((eL (eL ePiece 38 dPiece) 1 []) b)), (71, none, .p (.lst 1 b.length (fun q_ => .v (g q_))))]) (f := 37) (t := 72) 2 [] [70, 71] (by kernel_rfl) trivial (by rfl) (by rfl) (by rfl) (by rfl) (by kernel_rfl) (fun v_ w_ => RelP F2 (.lst 1 b.length (fun k => .v (g k))) [v_] ∧ CG F2 b g rb w1 (closedX b (spX b X c k 0)) w_) ?_ ?_))
   ·intro a_ w_ hS_
    obtain ⟨vb_, e1_, e2_⟩ := qs_slot (t := 70) (by kernel_rfl) hS_
    obtain ⟨xv_, e3_, e4_⟩ := qs_slot (t := 71) (by kernel_rfl) hS_
    have h_ := refClosed_ok b (spX b X c k 0) F2 w_ vb_ xv_ g rb hS_.s e2_ (relV_p e4_ rfl) hS_.g.2.1 hn hm
    rw [← eval_tmp e1_, ← eval_tmp e3_] at h_
    rw [show (#[Operand.tmp 70, Operand.tmp 71].map a_.eval) = #[a_.eval (.tmp 70), a_.eval (.tmp 71)] from by simp]
    refine h_.mono ?_
    rintro e_ w2_ ⟨v_, rfl, hp_, hC_⟩
    exact ⟨v_, rfl, hp_, hC_.1, hC_.2.1, wroteAll_trans hS_.g.2.2 hC_.2.2⟩
   rintro a1_ v1_ w2 hE1_ hN1_ hD1_ ⟨hp_, hC_⟩
   refine suffix_q (F2 := F2) (E' := [(6, none, .p (.lst 1 b.length (fun q_ => .v (g q_))))]) (G2 := fun w_ => CG F2 b g rb w1 (closedX b (spX b X c k 0)) w_) (d := .p (.lst 1 b.length (fun q_ => .v (g q_)))) (vc := []) [] [6] (by kernel_rfl) trivial (by kernel_rfl) hE1_ hN1_ hD1_ (fun _ _ h => h) hC_.1 (.one rfl (.p hp_)) hC_ ?_
   exact tq_then (tq_return (rs := Try.f38.results) (R := fun e_ w_ => ∃ v F_, e_ = .returned v ∧ Sub F_ w_ ∧ (∀ b_, b_ < w0.heap.size → F_ b_ = F b_) ∧ Grew w0 w_ ∧ RelV F_ noG (.p (eL (eL eB 1 false) 1 [] (GL b.length (lenB b) (stepX b X c)))) v) (vc := []) (ds := [.p (.lst 1 b.length (fun q_ => .v (g q_)))]) (by kernel_rfl) trivial (fun _ _ h => h) (fun w_ v_ hr hg => ⟨v_, addW F2 b.length rb w_, rfl, addW_sub hg.1, fun b_ hb_ => by rw [addW_old (fun q_ hq_ => by have := hnew q_ hq_; omega)]; exact hF2 b_ hb_, hg.2.2.grew hgrew hnew, .one rfl (.p (by rw [stepX, show spX b X c b.length 0 = spX b X c k 0 by rw [show b.length = k by omega]]; exact brows_rest hg.2.1 (relV_p hr rfl)))⟩))
end Go.Proofs.Ytjnjmnfacaakfaa
namespace Go.Proofs.Ytjnjmnfacaakfaa
open Go.Eng
def noneP (x : List (List Bool)) : Prop := ∀ j, j < x.length → ∀ i, i < (x.getD j []).length → (x.getD j []).getD i false = false
instance (x : List (List Bool)) : Decidable (noneP x) := inferInstanceAs (Decidable (∀ j, j < x.length → ∀ i, i < (x.getD j []).length → (x.getD j []).getD i false = false))
def sameP (x y : List (List Bool)) : Prop := ∀ j, j < x.length → ∀ i, i < (x.getD j []).length → (x.getD j []).getD i false = (y.getD j []).getD i false
instance (x y : List (List Bool)) : Decidable (sameP x y) := inferInstanceAs (Decidable (∀ j, j < x.length → ∀ i, i < (x.getD j []).length → (x.getD j []).getD i false = (y.getD j []).getD i false))
def Shape (x y : List (List Bool)) : Prop := x.length = y.length ∧ ∀ j, (x.getD j []).length = (y.getD j []).length
def findL (x : List (List Bool)) : List (List (List Bool)) → Int → Int
 | [], _ => -1
 | y :: l, i => if sameP y x then i else findL x l (i + 1)
theorem findL_step {x : List (List Bool)} {l : List (List (List Bool))} {i : Nat} (h : i < l.length) : findL x (l.drop i) (i : Int) = if sameP (l.getD i []) x then (i : Int) else findL x (l.drop (i + 1)) ((i + 1 : Nat) : Int) := by
 rw [drop_get (d := []) h, findL]
 rfl
theorem none_ok (x : List (List Bool)) (hb0 : x.length < 4611686018427387904) (hb1 : ∀ j, (x.getD j []).length < 4611686018427387904) : Pure Try.prog 39 [(eL (eL eB 1 false) 1 []) x] (vbool (decide (noneP x))) := by
 refine pure_of (fn := Try.f39) Try.func39 rfl rfl fun F_ W0_ => ?_
 refine tr_seq (q_t [0] [.p ((eL (eL eB 1 false) 1 []) x)] [] (tr_then (tr_seq (tr_seq (q_m [0, 3] [.p ((eL (eL eB 1 false) 1 []) x), vint .i64 0] (tr_then (tr_block (tr_loop (α := Nat) (fun z : Nat => (fun (k : Nat) => [(0, none, .p ((eL (eL eB 1 false) 1 []) x)), (3, none, vint .i64 (k : Int))]) z) (fun z : Nat => (fun (k : Nat) => []) z) (fun z : Nat => (fun (k : Nat) => (k ≤ x.length) ∧ (∀ j, j < k → ∀ i, i < (x.getD j []).length → (x.getD j []).getD i false = false)) z) (fun z : Nat => (fun (k : Nat) => x.length - k) z) 0 ?_ ?_ ?_))))))))
 ·show (0 ≤ x.length) ∧ (∀ j, j < 0 → ∀ i, i < (x.getD j []).length → (x.getD j []).getD i false = false)
  refine ⟨?_, ?_⟩
  ·omega
  ·omega
 ·intro A_ W_ hS
  replace hS := q_a (d := vint .i64 0) 3 (vint .i64 ((0 : Nat) : Int)) (eqD_int (by omega)) hS
  exact q_w [] [0, 3] hS
 ·intro z hz
  revert z; intro k hz
  have hz : (k ≤ x.length) ∧ (∀ j, j < k → ∀ i, i < (x.getD j []).length → (x.getD j []).getD i false = false) := hz
  obtain ⟨hi0_0, hi0_1⟩ := hz
  have hbk := hb1 k
  refine tr_seq (tr_seq (q_t [0, 3, 8] [.p ((eL (eL eB 1 false) 1 []) x), vint .i64 (k : Int), vbool (decide ((k : Int) < (x.length : Int)))] [] (tr_then (q_e ((k : Int) < (x.length : Int)) (fun hc1 => ?_) (fun hc1 => ?_)))))
  ·refine tr_skip (tr_then (tr_seq (tr_block (tr_seq (q_m [0, 3, 4] [.p ((eL (eL eB 1 false) 1 []) x), vint .i64 (k : Int), vint .i64 0] (tr_then (tr_block (tr_loop (α := Nat) (fun z : Nat => (fun (m : Nat) => [(0, none, .p ((eL (eL eB 1 false) 1 []) x)), (3, none, vint .i64 (k : Int)), (4, none, vint .i64 (m : Int))]) z) (fun z : Nat => (fun (m : Nat) => []) z) (fun z : Nat => (fun (m : Nat) => (m ≤ (x.getD k []).length) ∧ (∀ i, i < m → (x.getD k []).getD i false = false)) z) (fun z : Nat => (fun (m : Nat) => (x.getD k []).length - m) z) 0 ?_ ?_ ?_))))))))
   ·show (0 ≤ (x.getD k []).length) ∧ (∀ i, i < 0 → (x.getD k []).getD i false = false)
    refine ⟨?_, ?_⟩
    ·omega
    ·omega
   ·intro A_ W_ hS
    replace hS := q_a (d := vint .i64 0) 4 (vint .i64 ((0 : Nat) : Int)) (eqD_int (by omega)) hS
    exact q_w [] [0, 3, 4] hS
   ·intro z hz
    revert z; intro m hz
    have hz : (m ≤ (x.getD k []).length) ∧ (∀ i, i < m → (x.getD k []).getD i false = false) := hz
    obtain ⟨hi1_0, hi1_1⟩ := hz
    refine tr_seq (tr_seq (q_s [(0 : Int) ≤ (k : Int), (k : Int) < (x.length : Int)] [0, 3, 4, 17] [.p ((eL (eL eB 1 false) 1 []) x), vint .i64 (k : Int), vint .i64 (m : Int), vbool (decide ((m : Int) < (((x.getD k []).length : Nat) : Int)))] [] (al (by omega) (al (by omega) (trivial))) (tr_then (q_e ((m : Int) < (((x.getD k []).length : Nat) : Int)) (fun hc2 => ?_) (fun hc2 => ?_)))))
    ·refine tr_skip (tr_then (tr_seq (tr_block (tr_seq (q_l [(0 : Int) ≤ (k : Int), (k : Int) < (x.length : Int), (0 : Int) ≤ (m : Int), (m : Int) < ((x.getD k []).length : Int)] [0, 3, 4, 26] [.p ((eL (eL eB 1 false) 1 []) x), vint .i64 (k : Int), vint .i64 (m : Int), vbool ((x.getD k []).getD m false)] (al (by omega) (al (by omega) (al (by omega) (al (by omega) (trivial))))) (tr_then (tr_cond ((x.getD k []).getD m false) (by kernel_rfl) (fun hc3 => ?_) (fun hc3 => ?_))))))))
     ·refine tr_seq (q_m [2] [vbool false] (tr_then (q_i (d := vbool false) 2 (vbool (decide (noneP x))) ?_ ?_)))
      ·refine imp_eq (congrArg (fun x => D.p (eB x)) (a₁ := false) (a₂ := (decide (noneP x))) ?_)
       exact (decide_eq_false (fun h => by have := h k (by omega) m (by omega); rw [this] at hc3; cases hc3)).symm
      exact q_z [vbool (decide (noneP x))] (fun _ _ h => h)
     ·refine tr_skip (in_n (tr_then (q_k [(IntKind.wrap .i64 ((m : Int) + 1)) = (((m + 1) : Nat) : Int)] [0, 3, 4] [.p ((eL (eL eB 1 false) 1 []) x), vint .i64 (k : Int), vint .i64 (((m + 1) : Nat) : Int)] [(1, vint .i64 (((m + 1) : Nat) : Int))] [] (al (wr64 (by omega) (by omega) (by omega)) (trivial)) (lp_end (m + 1) ?_ ?_ ?_))))
      ·show ((m + 1) ≤ (x.getD k []).length) ∧ (∀ i, i < (m + 1) → (x.getD k []).getD i false = false)
       refine ⟨?_, ?_⟩
       ·omega
       ·exact fun j hj => (by by_cases e : j = m; (subst e; simpa using hc3); exact hi1_1 j (by omega))
      ·show (x.getD k []).length - (m + 1) < (x.getD k []).length - m
       omega
      ·intro A_ W_ hS
       exact q_w [] [0, 3, 4] hS
    ·refine tr_exit (th_e (th_e (in_hit (in_n (tr_then (q_k [(IntKind.wrap .i64 ((k : Int) + 1)) = (((k + 1) : Nat) : Int)] [0, 3] [.p ((eL (eL eB 1 false) 1 []) x), vint .i64 (((k + 1) : Nat) : Int)] [(1, vint .i64 (((k + 1) : Nat) : Int))] [] (al (wr64 (by omega) (by omega) (by omega)) (trivial)) (lp_end (k + 1) ?_ ?_ ?_)))))))
     ·show ((k + 1) ≤ x.length) ∧ (∀ j, j < (k + 1) → ∀ i, i < (x.getD j []).length → (x.getD j []).getD i false = false)
      refine ⟨?_, ?_⟩
      ·omega
      ·exact fun j hj => (by by_cases e : j = k; (subst e; exact fun i hi => hi1_1 i (by omega)); exact hi0_1 j (by omega))
     ·show x.length - (k + 1) < x.length - k
      omega
     ·intro A_ W_ hS
      exact q_w [] [0, 3] hS
  ·refine tr_exit (th_e (th_e (in_hit (tr_then (tr_seq (q_m [2] [vbool true] (tr_then (q_i (d := vbool true) 2 (vbool (decide (noneP x))) ?_ ?_))))))))
   ·refine imp_eq (congrArg (fun x => D.p (eB x)) (a₁ := true) (a₂ := (decide (noneP x))) ?_)
    exact (decide_eq_true (fun j hj i hi => hi0_1 j (by omega) i hi)).symm
   exact q_z [vbool (decide (noneP x))] (fun _ _ h => h)
theorem sameR_ok (x : List (List Bool)) (y : List (List Bool)) (hb0 : x.length < 4611686018427387904) (hb1 : ∀ j, (x.getD j []).length < 4611686018427387904) (hs : Shape x y) : Pure Try.prog 48 [(eL (eL eB 1 false) 1 []) x, (eL (eL eB 1 false) 1 []) y] (vbool (decide (sameP x y))) := by
 refine pure_of (fn := Try.f48) Try.func48 rfl rfl fun F_ W0_ => ?_
 refine tr_seq (q_t [0, 1] [.p ((eL (eL eB 1 false) 1 []) x), .p ((eL (eL eB 1 false) 1 []) y)] [] (tr_then (tr_seq (tr_seq (q_m [0, 1, 5] [.p ((eL (eL eB 1 false) 1 []) x), .p ((eL (eL eB 1 false) 1 []) y), vint .i64 0] (tr_then (tr_block (tr_loop (α := Nat) (fun z : Nat => (fun (k : Nat) => [(0, none, .p ((eL (eL eB 1 false) 1 []) x)), (1, none, .p ((eL (eL eB 1 false) 1 []) y)), (5, none, vint .i64 (k : Int))]) z) (fun z : Nat => (fun (k : Nat) => []) z) (fun z : Nat => (fun (k : Nat) => (k ≤ x.length) ∧ (∀ j, j < k → ∀ i, i < (x.getD j []).length → (x.getD j []).getD i false = (y.getD j []).getD i false)) z) (fun z : Nat => (fun (k : Nat) => x.length - k) z) 0 ?_ ?_ ?_))))))))
 ·show (0 ≤ x.length) ∧ (∀ j, j < 0 → ∀ i, i < (x.getD j []).length → (x.getD j []).getD i false = (y.getD j []).getD i false)
  refine ⟨?_, ?_⟩
  ·omega
  ·omega
 ·intro A_ W_ hS
  replace hS := q_a (d := vint .i64 0) 5 (vint .i64 ((0 : Nat) : Int)) (eqD_int (by omega)) hS
  exact q_w [] [0, 1, 5] hS
 ·intro z hz
  revert z; intro k hz
  have hz : (k ≤ x.length) ∧ (∀ j, j < k → ∀ i, i < (x.getD j []).length → (x.getD j []).getD i false = (y.getD j []).getD i false) := hz
  obtain ⟨hi0_0, hi0_1⟩ := hz
  have hbk := hb1 k
  have hs1 := hs.1
  have hs2 := hs.2 k
  refine tr_seq (tr_seq (q_t [0, 1, 5, 10] [.p ((eL (eL eB 1 false) 1 []) x), .p ((eL (eL eB 1 false) 1 []) y), vint .i64 (k : Int), vbool (decide ((k : Int) < (x.length : Int)))] [] (tr_then (q_e ((k : Int) < (x.length : Int)) (fun hc1 => ?_) (fun hc1 => ?_)))))
  ·refine tr_skip (tr_then (tr_seq (tr_block (tr_seq (q_m [0, 1, 5, 6] [.p ((eL (eL eB 1 false) 1 []) x), .p ((eL (eL eB 1 false) 1 []) y), vint .i64 (k : Int), vint .i64 0] (tr_then (tr_block (tr_loop (α := Nat) (fun z : Nat => (fun (m : Nat) => [(0, none, .p ((eL (eL eB 1 false) 1 []) x)), (1, none, .p ((eL (eL eB 1 false) 1 []) y)), (5, none, vint .i64 (k : Int)), (6, none, vint .i64 (m : Int))]) z) (fun z : Nat => (fun (m : Nat) => []) z) (fun z : Nat => (fun (m : Nat) => (m ≤ (x.getD k []).length) ∧ (∀ i, i < m → (x.getD k []).getD i false = (y.getD k []).getD i false)) z) (fun z : Nat => (fun (m : Nat) => (x.getD k []).length - m) z) 0 ?_ ?_ ?_))))))))
   ·show (0 ≤ (x.getD k []).length) ∧ (∀ i, i < 0 → (x.getD k []).getD i false = (y.getD k []).getD i false)
    refine ⟨?_, ?_⟩
    ·omega
    ·omega
   ·intro A_ W_ hS
    replace hS := q_a (d := vint .i64 0) 6 (vint .i64 ((0 : Nat) : Int)) (eqD_int (by omega)) hS
    exact q_w [] [0, 1, 5, 6] hS
   ·intro z hz
    revert z; intro m hz
    have hz : (m ≤ (x.getD k []).length) ∧ (∀ i, i < m → (x.getD k []).getD i false = (y.getD k []).getD i false) := hz
    obtain ⟨hi1_0, hi1_1⟩ := hz
    refine tr_seq (tr_seq (q_s [(0 : Int) ≤ (k : Int), (k : Int) < (x.length : Int)] [0, 1, 5, 6, 19] [.p ((eL (eL eB 1 false) 1 []) x), .p ((eL (eL eB 1 false) 1 []) y), vint .i64 (k : Int), vint .i64 (m : Int), vbool (decide ((m : Int) < (((x.getD k []).length : Nat) : Int)))] [] (al (by omega) (al (by omega) (trivial))) (tr_then (q_e ((m : Int) < (((x.getD k []).length : Nat) : Int)) (fun hc2 => ?_) (fun hc2 => ?_)))))
    ·refine tr_skip (tr_then (tr_seq (tr_block (tr_seq (q_d [(0 : Int) ≤ (k : Int), (k : Int) < (x.length : Int), (0 : Int) ≤ (m : Int), (m : Int) < ((x.getD k []).length : Int), (0 : Int) ≤ (k : Int), (k : Int) < (y.length : Int), (0 : Int) ≤ (m : Int), (m : Int) < ((y.getD k []).length : Int)] [0, 1, 5, 6, 36] [.p ((eL (eL eB 1 false) 1 []) x), .p ((eL (eL eB 1 false) 1 []) y), vint .i64 (k : Int), vint .i64 (m : Int), vbool (!(((x.getD k []).getD m false) == ((y.getD k []).getD m false)))] [] [] (al (by omega) (al (by omega) (al (by omega) (al (by omega) (al (by omega) (al (by omega) (al (by omega) (al (by omega) (trivial))))))))) (tr_then (q_c (!(((x.getD k []).getD m false) == ((y.getD k []).getD m false))) (¬ ((x.getD k []).getD m false) = ((y.getD k []).getD m false)) (fun hc3 => ?_) (fun hc3 => ?_))))))))
     ·refine tr_seq (q_m [4] [vbool false] (tr_then (q_i (d := vbool false) 4 (vbool (decide (sameP x y))) ?_ ?_)))
      ·refine imp_eq (congrArg (fun x => D.p (eB x)) (a₁ := false) (a₂ := (decide (sameP x y))) ?_)
       exact (decide_eq_false (fun h => hc3 (h k (by omega) m (by omega)))).symm
      exact q_z [vbool (decide (sameP x y))] (fun _ _ h => h)
     ·refine tr_skip (in_n (tr_then (q_k [(IntKind.wrap .i64 ((m : Int) + 1)) = (((m + 1) : Nat) : Int)] [0, 1, 5, 6] [.p ((eL (eL eB 1 false) 1 []) x), .p ((eL (eL eB 1 false) 1 []) y), vint .i64 (k : Int), vint .i64 (((m + 1) : Nat) : Int)] [(1, vint .i64 (((m + 1) : Nat) : Int))] [] (al (wr64 (by omega) (by omega) (by omega)) (trivial)) (lp_end (m + 1) ?_ ?_ ?_))))
      ·show ((m + 1) ≤ (x.getD k []).length) ∧ (∀ i, i < (m + 1) → (x.getD k []).getD i false = (y.getD k []).getD i false)
       refine ⟨?_, ?_⟩
       ·omega
       ·exact fun j hj => (by by_cases e : j = m; (subst e; simpa using hc3); exact hi1_1 j (by omega))
      ·show (x.getD k []).length - (m + 1) < (x.getD k []).length - m
       omega
      ·intro A_ W_ hS
       exact q_w [] [0, 1, 5, 6] hS
    ·refine tr_exit (th_e (th_e (in_hit (in_n (tr_then (q_k [(IntKind.wrap .i64 ((k : Int) + 1)) = (((k + 1) : Nat) : Int)] [0, 1, 5] [.p ((eL (eL eB 1 false) 1 []) x), .p ((eL (eL eB 1 false) 1 []) y), vint .i64 (((k + 1) : Nat) : Int)] [(1, vint .i64 (((k + 1) : Nat) : Int))] [] (al (wr64 (by omega) (by omega) (by omega)) (trivial)) (lp_end (k + 1) ?_ ?_ ?_)))))))
     ·show ((k + 1) ≤ x.length) ∧ (∀ j, j < (k + 1) → ∀ i, i < (x.getD j []).length → (x.getD j []).getD i false = (y.getD j []).getD i false)
      refine ⟨?_, ?_⟩
      ·omega
      ·exact fun j hj => (by by_cases e : j = k; (subst e; exact fun i hi => hi1_1 i (by omega)); exact hi0_1 j (by omega))
     ·show x.length - (k + 1) < x.length - k
      omega
     ·intro A_ W_ hS
      exact q_w [] [0, 1, 5] hS
  ·refine tr_exit (th_e (th_e (in_hit (tr_then (tr_seq (q_m [4] [vbool true] (tr_then (q_i (d := vbool true) 4 (vbool (decide (sameP x y))) ?_ ?_))))))))
   ·refine imp_eq (congrArg (fun x => D.p (eB x)) (a₁ := true) (a₂ := (decide (sameP x y))) ?_)
    exact (decide_eq_true (fun j hj i hi => hi0_1 j (by omega) i hi)).symm
   exact q_z [vbool (decide (sameP x y))] (fun _ _ h => h)
theorem find_ok (l : List (List (List Bool))) (x : List (List Bool)) (hb0 : l.length < 4611686018427387904) (hsh : ∀ k, k < l.length → (l.getD k []).length < 4611686018427387904 ∧ (∀ j, ((l.getD k []).getD j []).length < 4611686018427387904) ∧ Shape (l.getD k []) x) : Pure Try.prog 40 [(eL (eL (eL eB 1 false) 1 []) 1 []) l, (eL (eL eB 1 false) 1 []) x] (vint .i64 (findL x l 0)) := by
 refine pure_of (fn := Try.f40) Try.func40 rfl rfl fun F_ W0_ => ?_
 refine tr_seq (q_t [0, 1] [.p ((eL (eL (eL eB 1 false) 1 []) 1 []) l), .p ((eL (eL eB 1 false) 1 []) x)] [] (tr_then (tr_seq (tr_seq (q_m [0, 1, 5] [.p ((eL (eL (eL eB 1 false) 1 []) 1 []) l), .p ((eL (eL eB 1 false) 1 []) x), vint .i64 0] (tr_then (tr_block (tr_loop (α := Nat) (fun z : Nat => (fun (k : Nat) => [(0, none, .p ((eL (eL (eL eB 1 false) 1 []) 1 []) l)), (1, none, .p ((eL (eL eB 1 false) 1 []) x)), (5, none, vint .i64 (k : Int))]) z) (fun z : Nat => (fun (k : Nat) => []) z) (fun z : Nat => (fun (k : Nat) => (k ≤ l.length) ∧ (findL x (l.drop k) (k : Int) = findL x l 0)) z) (fun z : Nat => (fun (k : Nat) => l.length - k) z) 0 ?_ ?_ ?_))))))))
 ·show (0 ≤ l.length) ∧ (findL x (l.drop 0) (0 : Int) = findL x l 0)
  refine ⟨?_, ?_⟩
  ·omega
  ·rfl
 ·intro A_ W_ hS
  replace hS := q_a (d := vint .i64 0) 5 (vint .i64 ((0 : Nat) : Int)) (eqD_int (by omega)) hS
  exact q_w [] [0, 1, 5] hS
 ·intro z hz
  revert z; intro k hz
  have hz : (k ≤ l.length) ∧ (findL x (l.drop k) (k : Int) = findL x l 0) := hz
  obtain ⟨hi0_0, hi0_1⟩ := hz
  refine tr_seq (tr_seq (q_t [0, 1, 5, 9] [.p ((eL (eL (eL eB 1 false) 1 []) 1 []) l), .p ((eL (eL eB 1 false) 1 []) x), vint .i64 (k : Int), vbool (decide ((k : Int) < (l.length : Int)))] [] (tr_then (q_e ((k : Int) < (l.length : Int)) (fun hc1 => ?_) (fun hc1 => ?_)))))
  ·refine tr_skip (tr_then (tr_seq (tr_block (tr_seq (q_k [(0 : Int) ≤ (k : Int), (k : Int) < (l.length : Int), Pure Try.prog 48 [(eL (eL eB 1 false) 1 []) (l.getD k []), (eL (eL eB 1 false) 1 []) x] (vbool (decide (sameP (l.getD k []) x)))] [0, 1, 5, 17] [.p ((eL (eL (eL eB 1 false) 1 []) 1 []) l), .p ((eL (eL eB 1 false) 1 []) x), vint .i64 (k : Int), vbool (decide (sameP (l.getD k []) x))] [] [(5, vbool (decide (sameP (l.getD k []) x)))] (al (by omega) (al (by omega) (al (sameR_ok _ _ (hsh _ (by omega)).1 (hsh _ (by omega)).2.1 (hsh _ (by omega)).2.2) (trivial)))) (tr_then (tr_cond (decide (sameP (l.getD k []) x)) (by kernel_rfl) (fun hc2 => ?_) (fun hc2 => ?_))))))))
   ·refine tr_seq (q_m [4] [vint .i64 (k : Int)] (tr_then (q_i (d := vint .i64 (k : Int)) 4 (vint .i64 (findL x l 0)) ?_ ?_)))
    ·refine imp_eq (congrArg (fun x => D.p (eI x)) (a₁ := (k : Int)) (a₂ := (findL x l 0)) ?_)
     rw [← hi0_1, findL_step (i := k) (by omega), if_pos (of_decide_eq_true hc2)]
    exact q_z [vint .i64 (findL x l 0)] (fun _ _ h => h)
   ·refine tr_skip (in_n (tr_then (q_k [(IntKind.wrap .i64 ((k : Int) + 1)) = (((k + 1) : Nat) : Int)] [0, 1, 5] [.p ((eL (eL (eL eB 1 false) 1 []) 1 []) l), .p ((eL (eL eB 1 false) 1 []) x), vint .i64 (((k + 1) : Nat) : Int)] [(1, vint .i64 (((k + 1) : Nat) : Int))] [] (al (wr64 (by omega) (by omega) (by omega)) (trivial)) (lp_end (k + 1) ?_ ?_ ?_))))
    ·show ((k + 1) ≤ l.length) ∧ (findL x (l.drop (k + 1)) ((k + 1) : Int) = findL x l 0)
     refine ⟨?_, ?_⟩
     ·omega
     ·rw [← hi0_1, findL_step (i := k) (by omega), if_neg (of_decide_eq_false hc2)]; rfl
    ·show l.length - (k + 1) < l.length - k
     omega
    ·intro A_ W_ hS
     exact q_w [] [0, 1, 5] hS
  ·refine tr_exit (th_e (th_e (in_hit (tr_then (tr_seq (q_m [4] [vint .i64 (-1)] (tr_then (q_i (d := vint .i64 (-1)) 4 (vint .i64 (findL x l 0)) ?_ ?_))))))))
   ·refine imp_eq (congrArg (fun x => D.p (eI x)) (a₁ := (-1)) (a₂ := (findL x l 0)) ?_)
    rw [← hi0_1, List.drop_of_length_le (by omega), findL]
   exact q_z [vint .i64 (findL x l 0)] (fun _ _ h => h)
end Go.Proofs.Ytjnjmnfacaakfaa
namespace Go.Proofs.Ytjnjmnfacaakfaa
open Go.Eng
/-! ### A piece's set is not empty -/
def Good (ps : List Place) (m : Nat) : Prop := ∃ S, Bits (closedS ps S) m ∧ ∃ i, i < ps.length ∧ S i = true
/-! ### Spreading -/
section
variable {l : Lang} {x : Mp × Mp} {k c i : Nat}
end
section
variable {l : Lang}
end
end Go.Proofs.Ytjnjmnfacaakfaa
