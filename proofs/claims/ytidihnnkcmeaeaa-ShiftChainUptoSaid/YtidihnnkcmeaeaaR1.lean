/- The reference's way over a delta, place by place, makes what the walk over both operations makes. Plain lists. No condition but canonical operations. -/
import Derived.Test.YtidihnnkcmeaeaaQ4
namespace Go.Proofs.Ytidihnnkcmeaeaa.A
open Go.RowKit Go.Proofs.YtidihnnkcmeaeaaW.PrintWords Go.Proofs.YtidihnnkcmeaeaaW.PrintLast
set_option linter.unusedVariables false
theorem okTx {s : ByteArray} (h : s.size ≠ 0) : opOk (⟨2, 0, s⟩ : S70) = true := by simp [opOk, h]
def hd (X : List ByteArray) : ByteArray := X.headD noText
def attach (s : ByteArray) (X : List ByteArray) : List ByteArray := (s ++ hd X) :: X.tail
def PL : List S70 → List ByteArray
 | [] => [noText]
 | o :: d => if o.f0 = 2 then attach o.f2 (PL d) else List.replicate o.f1.toNat noText ++ PL d
def DL : List S70 → List Bool
 | [] => []
 | o :: d => if o.f0 = 2 then DL d else List.replicate o.f1.toNat (o.f0 == 3) ++ DL d
def pieces (first : Bool) (s t : ByteArray) : List S70 :=
 if first = true then [(⟨2, 0, t⟩ : S70), ⟨1, (s.size : Int), noText⟩] else [(⟨1, (s.size : Int), noText⟩ : S70), ⟨2, 0, t⟩]
def oneB (d e : Bool) : List S70 := if d = true then [] else [(⟨if e = true then 3 else 1, 1, noText⟩ : S70)]
def refOps (first : Bool) : List Bool → List Bool → List ByteArray → List ByteArray → List S70
 | d :: ds, e :: es, X, Y => pieces first (hd X) (hd Y) ++ (oneB d e ++ refOps first ds es X.tail Y.tail)
 | [], _, X, Y => pieces first (hd X) (hd Y)
 | _ :: _, [], X, Y => pieces first (hd X) (hd Y)
def refRest (first : Bool) : List Bool → List Bool → List ByteArray → List ByteArray → List S70
 | d :: ds, e :: es, X, Y => oneB d e ++ refOps first ds es X Y
 | [], _, _, _ => []
 | _ :: _, [], _, _ => []
theorem refOps_eq (first : Bool) (ds es : List Bool) (X Y : List ByteArray) : refOps first ds es X Y = pieces first (hd X) (hd Y) ++ refRest first ds es X.tail Y.tail := by
 cases ds with
 | nil => rw [refOps, refRest, List.append_nil]
 | cons d ds =>
  cases es with
  | nil => rw [refOps, refRest, List.append_nil]
  | cons e es => rw [refOps, refRest]
theorem pieces_ok (first : Bool) (s t : ByteArray) : ∀ o ∈ pieces first s t, kindOk o = true := by
 intro o ho
 unfold pieces at ho
 split at ho <;> (simp only [List.mem_cons, List.not_mem_nil, or_false] at ho; rcases ho with rfl | rfl <;> (simp only [kindOk]; simp))
theorem oneB_ok (d e : Bool) : ∀ o ∈ oneB d e, kindOk o = true := by
 intro o ho
 unfold oneB at ho
 split at ho
 ·
  cases ho
 ·
  rw [List.mem_singleton] at ho
  rw [ho]
  split <;> rfl
theorem refOps_ok (first : Bool) : ∀ (ds es : List Bool) (X Y : List ByteArray), ∀ o ∈ refOps first ds es X Y, kindOk o = true
 | [], _, X, Y, o, ho => by rw [refOps] at ho; exact pieces_ok _ _ _ o ho
 | _ :: _, [], X, Y, o, ho => by rw [refOps] at ho; exact pieces_ok _ _ _ o ho
 | d :: ds, e :: es, X, Y, o, ho => by
  rw [refOps, List.mem_append, List.mem_append] at ho
  rcases ho with ho | ho | ho
  ·
   exact pieces_ok _ _ _ o ho
  ·
   exact oneB_ok _ _ o ho
  ·
   exact refOps_ok first ds es _ _ o ho
theorem refRest_ok (first : Bool) (ds es : List Bool) (X Y : List ByteArray) : ∀ o ∈ refRest first ds es X Y, kindOk o = true := by
 intro o ho
 cases ds with
 | nil => rw [refRest] at ho; cases ho
 | cons d ds =>
  cases es with
  | nil => rw [refRest] at ho; cases ho
  | cons e es =>
   rw [refRest, List.mem_append] at ho
   rcases ho with ho | ho
   ·
    exact oneB_ok _ _ o ho
   ·
    exact refOps_ok first _ _ _ _ o ho
theorem from_ok {d : List S70} (h : ∀ o ∈ d, kindOk o = true) : 0 ≤ fromOf d := fromOf_nonneg (fun o ho => kindOk_posN (h o ho))
theorem eqv_of {a b : List S70} (h : ∀ {α : Type} {g : ByteArray → List α}, Wr g → ∀ xs : List α, ap g a xs = ap g b xs) (h1 : fromOf a = fromOf b) (h2 : toOf a = toOf b) : Eqv a b := ⟨fun hg xs _ => h hg xs, h1, h2⟩
theorem pieces_put {first : Bool} {s t t' : ByteArray} (h : first = true ∨ s = noText) : Eqv ((⟨2, 0, t⟩ : S70) :: pieces first s t') (pieces first s (t ++ t')) := by
 cases first with
 | true =>
  simp only [pieces, if_true]
  refine eqv_of (fun hg xs => ?_) ?_ ?_
  ·
   rw [ap_put (o := ⟨2, 0, t⟩) rfl, ap_put (o := ⟨2, 0, t'⟩) rfl, ap_put (o := ⟨2, 0, t ++ t'⟩) rfl]
   simp only [hg.app, List.append_assoc]
  ·
   simp [fromOf]
  ·
   first | (simp [toOf]; done) | (simp [toOf]; omega)
 | false =>
  have hs : s = noText := by rcases h with h | h; cases h; exact h
  subst hs
  have e : pieces false noText t' = [(⟨1, (noText.size : Int), noText⟩ : S70), ⟨2, 0, t'⟩] := rfl
  have e2 : pieces false noText (t ++ t') = [(⟨1, (noText.size : Int), noText⟩ : S70), ⟨2, 0, t ++ t'⟩] := rfl
  rw [e, e2]
  have hz : ((noText.size : Nat) : Int) = 0 := rfl
  rw [hz]
  refine eqv_of (fun hg xs => ?_) ?_ ?_
  ·
   rw [ap_put (o := ⟨2, 0, t⟩) rfl, ap_keep (o := ⟨1, 0, noText⟩) rfl, ap_put (o := ⟨2, 0, t'⟩) rfl, ap_keep (o := ⟨1, 0, noText⟩) rfl, ap_put (o := ⟨2, 0, t ++ t'⟩) rfl]
   simp [hg.app]
  ·
   simp [fromOf]
  ·
   first | (simp [toOf]; done) | (simp [toOf]; omega)
theorem pieces_keep {first : Bool} {s s' t : ByteArray} (h : first = false ∨ t = noText) : Eqv ((⟨1, (s.size : Int), noText⟩ : S70) :: pieces first s' t) (pieces first (s ++ s') t) := by
 have hsz : (((s ++ s').size : Nat) : Int).toNat = s.size + s'.size := by rw [ByteArray.size_append]; omega
 cases first with
 | false =>
  have e : pieces false s' t = [(⟨1, (s'.size : Int), noText⟩ : S70), ⟨2, 0, t⟩] := rfl
  have e2 : pieces false (s ++ s') t = [(⟨1, ((s ++ s').size : Int), noText⟩ : S70), ⟨2, 0, t⟩] := rfl
  rw [e, e2]
  refine eqv_of (fun hg xs => ?_) ?_ ?_
  ·
   rw [ap_keep (o := ⟨1, (s.size : Int), noText⟩) rfl, ap_keep (o := ⟨1, (s'.size : Int), noText⟩) rfl, ap_put (o := ⟨2, 0, t⟩) rfl, ap_keep (o := ⟨1, ((s ++ s').size : Int), noText⟩) rfl, ap_put (o := ⟨2, 0, t⟩) rfl]
   simp only [hsz, Int.toNat_natCast, List.take_add, List.append_assoc, ap]
  ·
   simp [fromOf]
  ·
   first | (simp [toOf]; done) | (simp [toOf]; omega)
 | true =>
  have ht : t = noText := by rcases h with h | h; cases h; exact h
  subst ht
  simp only [pieces, if_true]
  refine eqv_of (fun hg xs => ?_) ?_ ?_
  ·
   rw [ap_keep (o := ⟨1, (s.size : Int), noText⟩) rfl, ap_put (o := ⟨2, 0, noText⟩) rfl, ap_keep (o := ⟨1, (s'.size : Int), noText⟩) rfl, ap_put (o := ⟨2, 0, noText⟩) rfl, ap_keep (o := ⟨1, ((s ++ s').size : Int), noText⟩) rfl]
   simp only [hsz, Int.toNat_natCast, List.take_add, hg.nil, List.nil_append, ap, List.append_assoc]
  ·
   simp [fromOf]
  ·
   first | (simp [toOf]; done) | (simp [toOf]; omega)
theorem pieces_none (first : Bool) : Eqv (pieces first noText noText) [] := by
 have hz : ((noText.size : Nat) : Int) = 0 := rfl
 cases first with
 | true => simp only [pieces, if_true]; rw [hz]; exact eqv_of (fun hg xs => by rw [ap_put (o := ⟨2, 0, noText⟩) rfl, ap_keep (o := ⟨1, 0, noText⟩) rfl, hg.nil]; simp [ap]) (by simp [fromOf]) (by first | (simp [toOf]; done) | (simp [toOf]; rfl))
 | false =>
  have e : pieces false noText noText = [(⟨1, (noText.size : Int), noText⟩ : S70), ⟨2, 0, noText⟩] := rfl
  rw [e, hz]
  exact eqv_of (fun hg xs => by rw [ap_keep (o := ⟨1, 0, noText⟩) rfl, ap_put (o := ⟨2, 0, noText⟩) rfl, hg.nil]; simp [ap]) (by simp [fromOf]) (by first | (simp [toOf]; done) | (simp [toOf]; rfl))
theorem ok_cons {q : S70} {d : List S70} (h : kindOk q = true) (hd : ∀ o ∈ d, kindOk o = true) : ∀ o ∈ q :: d, kindOk o = true := by
 intro o ho
 rcases List.mem_cons.1 ho with rfl | ho
 ·
  exact h
 ·
  exact hd o ho
theorem ref_put (first : Bool) (ds es : List Bool) (X Y : List ByteArray) (t : ByteArray) (h : first = true ∨ hd X = noText) :
  Eqv ((⟨2, 0, t⟩ : S70) :: refOps first ds es X Y) (refOps first ds es X (attach t Y)) := by
 rw [refOps_eq, refOps_eq first ds es X (attach t Y)]
 exact (pieces_put (t' := hd Y) h).left _ (ok_cons rfl (pieces_ok _ _ _)) (pieces_ok _ _ _) (from_ok (refRest_ok _ _ _ _ _))
theorem ref_keep (first : Bool) (ds es : List Bool) (X Y : List ByteArray) (s : ByteArray) (h : first = false ∨ hd Y = noText) :
  Eqv ((⟨1, (s.size : Int), noText⟩ : S70) :: refOps first ds es X Y) (refOps first ds es (attach s X) Y) := by
 rw [refOps_eq, refOps_eq first ds es (attach s X) Y]
 exact (pieces_keep (s' := hd X) h).left _ (ok_cons (by simp only [kindOk]; simp) (pieces_ok _ _ _)) (pieces_ok _ _ _) (from_ok (refRest_ok _ _ _ _ _))
theorem symE {a b : List S70} (h : Eqv a b) : Eqv b a := ⟨fun hg xs hx => (h.sem hg xs (by rw [h.from_]; exact hx)).symm, h.from_.symm, h.tto.symm⟩
theorem one_more {d e : Bool} (n : Nat) : Eqv (oneB d e ++ (if d = true then [] else [(⟨if e = true then 3 else 1, (n : Int), noText⟩ : S70)])) (if d = true then [] else [(⟨if e = true then 3 else 1, ((n + 1 : Nat) : Int), noText⟩ : S70)]) := by
 unfold oneB
 cases d with
 | true => exact Eqv.refl _
 | false =>
  have hc : ((n + 1 : Nat) : Int) = 1 + (n : Int) := by omega
  cases e with
  | true =>
   rw [hc]
   exact symE (eqv_drops (m := 1) (n := (n : Int)) (by omega) (by omega))
  | false =>
   rw [hc]
   exact symE (eqv_keeps (m := 1) (n := (n : Int)) (by omega) (by omega))
theorem num_ok (d e : Bool) (n : Nat) : ∀ o ∈ (if d = true then [] else [(⟨if e = true then 3 else 1, (n : Int), noText⟩ : S70)]), kindOk o = true := by
 intro o ho
 split at ho
 ·
  cases ho
 ·
  rw [List.mem_singleton] at ho
  rw [ho]
  split <;> (simp only [kindOk]; simp)
theorem num_zero (d e : Bool) : Eqv (if d = true then [] else [(⟨if e = true then 3 else 1, ((0 : Nat) : Int), noText⟩ : S70)]) [] := by
 split
 ·
  exact Eqv.refl _
 ·
  split
  ·
   exact symE (eqv_none (.inr (.inl rfl)))
  ·
   exact symE (eqv_none (.inl rfl))
theorem ref_chunk (first d e : Bool) (ds es : List Bool) (X Y : List ByteArray) : ∀ n : Nat,
  Eqv ((if d = true then [] else [(⟨if e = true then 3 else 1, (n : Int), noText⟩ : S70)]) ++ refOps first ds es X Y)
   (refOps first (List.replicate n d ++ ds) (List.replicate n e ++ es) (List.replicate n noText ++ X) (List.replicate n noText ++ Y))
 | 0 => by
  simp only [List.replicate_zero, List.nil_append]
  have := (num_zero d e).left (refOps first ds es X Y) (num_ok d e 0) (by simp) (from_ok (refOps_ok _ _ _ _ _))
  simpa using this
 | n + 1 => by
  have ih := ref_chunk first d e ds es X Y n
  have e1 : refOps first (List.replicate (n + 1) d ++ ds) (List.replicate (n + 1) e ++ es) (List.replicate (n + 1) noText ++ X) (List.replicate (n + 1) noText ++ Y) =
    pieces first noText noText ++ (oneB d e ++ refOps first (List.replicate n d ++ ds) (List.replicate n e ++ es) (List.replicate n noText ++ X) (List.replicate n noText ++ Y)) := by
   simp only [List.replicate_succ, List.cons_append, refOps, hd, List.headD_cons, List.tail_cons]
  rw [e1]
  have hok2 := refOps_ok first (List.replicate n d ++ ds) (List.replicate n e ++ es) (List.replicate n noText ++ X) (List.replicate n noText ++ Y)
  have hok3 : ∀ o ∈ oneB d e ++ refOps first (List.replicate n d ++ ds) (List.replicate n e ++ es) (List.replicate n noText ++ X) (List.replicate n noText ++ Y), kindOk o = true := by
   intro o ho
   rcases List.mem_append.1 ho with ho | ho
   ·
    exact oneB_ok _ _ o ho
   ·
    exact hok2 o ho
  have s1 := (one_more (d := d) (e := e) n).left (refOps first ds es X Y) (by
   intro o ho
   rcases List.mem_append.1 ho with ho | ho
   ·
    exact oneB_ok _ _ o ho
   ·
    exact num_ok d e n o ho) (num_ok d e (n + 1)) (from_ok (refOps_ok _ _ _ _ _))
  have s2 := ih.right (oneB d e) (oneB_ok d e)
  have s3 := (symE (pieces_none first)).left _ (by simp) (pieces_ok _ _ _) (from_ok hok3)
  rw [List.append_assoc] at s1
  exact ((symE s1).trans s2).trans (by simpa using s3)
theorem PL_next {p : S70} {a : List S70} {x n : Int} (hp : p.f0 ≠ 2) (h0 : 0 ≤ n) (hle : x + n ≤ p.f1) : PL (cutH (p :: a) x) = List.replicate n.toNat noText ++ PL (cutH (if x + n = p.f1 then a else p :: a) (if x + n = p.f1 then 0 else x + n)) := by
 rw [cutH, PL, if_neg hp]
 by_cases h : x + n = p.f1
 ·
  rw [if_pos h, if_pos h, cutH_zero]
  dsimp only
  rw [show (p.f1 - x).toNat = n.toNat by omega]
 ·
  rw [if_neg h, if_neg h, cutH, PL, if_neg hp]
  dsimp only
  rw [← List.append_assoc, List.replicate_append_replicate, show n.toNat + (p.f1 - (x + n)).toNat = (p.f1 - x).toNat by omega]
theorem DL_next {p : S70} {a : List S70} {x n : Int} (hp : p.f0 ≠ 2) (h0 : 0 ≤ n) (hle : x + n ≤ p.f1) : DL (cutH (p :: a) x) = List.replicate n.toNat (p.f0 == 3) ++ DL (cutH (if x + n = p.f1 then a else p :: a) (if x + n = p.f1 then 0 else x + n)) := by
 rw [cutH, DL, if_neg hp]
 by_cases h : x + n = p.f1
 ·
  rw [if_pos h, if_pos h, cutH_zero]
  dsimp only
  rw [show (p.f1 - x).toNat = n.toNat by omega]
 ·
  rw [if_neg h, if_neg h, cutH, DL, if_neg hp]
  dsimp only
  rw [← List.append_assoc, List.replicate_append_replicate, show n.toNat + (p.f1 - (x + n)).toNat = (p.f1 - x).toNat by omega]
theorem PL_head {p : S70} {a : List S70} {x : Int} (hp : p.f0 ≠ 2) (h : x < p.f1) : hd (PL (cutH (p :: a) x)) = noText := by
 rw [cutH, PL, if_neg hp]
 dsimp only
 obtain ⟨m, hm⟩ : ∃ m, (p.f1 - x).toNat = m + 1 := ⟨(p.f1 - x).toNat - 1, by omega⟩
 rw [hm, List.replicate_succ]
 rfl
theorem over_ref (first : Bool) : ∀ (k : Nat) (a b : List S70) (x y : Int), (∀ o ∈ a, opOk o = true) → (∀ o ∈ b, opOk o = true) → cutOk a x → cutOk b y → fromOf (cutH a x) = fromOf (cutH b y) → a.length + b.length < k →
  Eqv (overOps first k a x b y) (refOps first (DL (cutH a x)) (DL (cutH b y)) (PL (cutH a x)) (PL (cutH b y)))
 | 0, a, b, x, y, _, _, _, _, _, hk => by omega
 | k + 1, [], [], x, y, _, _, _, _, _, _ => by
  rw [overOps, cutH, cutH, DL, PL, refOps]
  exact symE (pieces_none first)
 | k + 1, [], q :: b, x, y, ha, hb, hx, hy, hf, hk => by
  have hb' : ∀ o ∈ b, opOk o = true := fun o ho => hb o (List.mem_cons_of_mem _ ho)
  have hfb := fromOf_nonneg (d := b) (fun o ho => kindOk_posN (opOk_kindOk (hb' o ho)))
  have hoq := hb q List.mem_cons_self
  rw [overOps]
  by_cases q2 : q.f0 = 2
  ·
   have hy0 := cutOk_put hy q2
   subst hy0
   rw [cutH_zero, fromOf_cons, if_pos q2] at hf
   have ih := over_ref first k [] b x 0 ha hb' hx ⟨Int.le_refl 0, .inl rfl⟩ (by rw [cutH_zero]; omega) (by simp only [List.length_cons, List.length_nil] at hk ⊢; omega)
   rw [if_pos q2]
   rw [cutH_zero] at ih
   have hq : q = ⟨2, 0, q.f2⟩ := op_eq hoq (okTx (by rcases opOk_cases hoq with ⟨k1, k2, k3⟩ | ⟨k1, k2, k3⟩ <;> omega)) q2 (fun h => absurd q2 h) (fun _ => rfl)
   have s1 := ih.right [q] (by intro o ho; rw [List.mem_singleton] at ho; rw [ho]; exact opOk_kindOk hoq)
   refine s1.trans ?_
   rw [cutH_zero, DL, if_pos q2, PL.eq_2 q b, if_pos q2]
   have := ref_put first (DL (cutH [] x)) (DL b) (PL (cutH [] x)) (PL b) q.f2 (.inr rfl)
   rw [← hq] at this
   exact this
  ·
   exfalso
   have hyl := cutOk_num hy hoq q2
   rw [cutH, cutH, fromOf_cons, if_neg q2] at hf
   have hf2 : (0 : Int) = q.f1 - y + fromOf b := hf
   omega
 | k + 1, p :: a, [], x, y, ha, hb, hx, hy, hf, hk => by
  have ha' : ∀ o ∈ a, opOk o = true := fun o ho => ha o (List.mem_cons_of_mem _ ho)
  have hfa := fromOf_nonneg (d := a) (fun o ho => kindOk_posN (opOk_kindOk (ha' o ho)))
  have hop := ha p List.mem_cons_self
  rw [overOps]
  by_cases p2 : p.f0 = 2
  ·
   have hx0 := cutOk_put hx p2
   subst hx0
   rw [cutH_zero, fromOf_cons, if_pos p2] at hf
   have ih := over_ref first k a [] 0 y ha' hb ⟨Int.le_refl 0, .inl rfl⟩ hy (by rw [cutH_zero]; omega) (by simp only [List.length_cons, List.length_nil] at hk ⊢; omega)
   rw [if_pos p2]
   rw [cutH_zero] at ih
   have s1 := ih.right [(⟨1, (p.f2.size : Int), noText⟩ : S70)] (by intro o ho; rw [List.mem_singleton] at ho; rw [ho]; simp only [kindOk]; simp)
   refine s1.trans ?_
   rw [cutH_zero, DL.eq_2 p a, if_pos p2, PL.eq_2 p a, if_pos p2]
   exact ref_keep first (DL a) (DL (cutH [] y)) (PL a) (PL (cutH [] y)) p.f2 (.inr rfl)
  ·
   exfalso
   have hxl := cutOk_num hx hop p2
   rw [cutH, cutH, fromOf_cons, if_neg p2] at hf
   have hf2 : p.f1 - x + fromOf a = (0 : Int) := hf
   omega
 | k + 1, p :: a, q :: b, x, y, ha, hb, hx, hy, hf, hk => by
  have ha' : ∀ o ∈ a, opOk o = true := fun o ho => ha o (List.mem_cons_of_mem _ ho)
  have hb' : ∀ o ∈ b, opOk o = true := fun o ho => hb o (List.mem_cons_of_mem _ ho)
  have hop := ha p List.mem_cons_self
  have hoq := hb q List.mem_cons_self
  simp only [List.length_cons] at hk
  rw [overOps]
  by_cases c : q.f0 = 2 ∧ (first = true ∨ p.f0 ≠ 2)
  ·
   have hy0 := cutOk_put hy c.1
   subst hy0
   rw [cutH_zero (q :: b), fromOf_cons (d := b), if_pos c.1] at hf
   have ih := over_ref first k (p :: a) b x 0 ha hb' hx ⟨Int.le_refl 0, .inl rfl⟩ (by rw [cutH_zero b]; omega) (by simp only [List.length_cons]; omega)
   rw [if_pos c]
   rw [cutH_zero b] at ih
   have hq : q = ⟨2, 0, q.f2⟩ := op_eq hoq (okTx (by rcases opOk_cases hoq with ⟨k1, k2, k3⟩ | ⟨k1, k2, k3⟩ <;> omega)) c.1 (fun h => absurd c.1 h) (fun _ => rfl)
   have s1 := ih.right [q] (by intro o ho; rw [List.mem_singleton] at ho; rw [ho]; exact opOk_kindOk hoq)
   refine s1.trans ?_
   rw [cutH_zero (q :: b), DL.eq_2 q b, if_pos c.1, PL.eq_2 q b, if_pos c.1]
   have := ref_put first (DL (cutH (p :: a) x)) (DL b) (PL (cutH (p :: a) x)) (PL b) q.f2 (by
    rcases c.2 with h | h
    ·
     exact .inl h
    ·
     exact .inr (PL_head h (cutOk_num hx hop h)))
   rw [← hq] at this
   exact this
  ·
   rw [if_neg c]
   by_cases p2 : p.f0 = 2
   ·
    have hx0 := cutOk_put hx p2
    subst hx0
    rw [cutH_zero, fromOf_cons, if_pos p2] at hf
    have ih := over_ref first k a (q :: b) 0 y ha' hb ⟨Int.le_refl 0, .inl rfl⟩ hy (by rw [cutH_zero]; omega) (by simp only [List.length_cons]; omega)
    rw [if_pos p2]
    rw [cutH_zero] at ih
    have s1 := ih.right [(⟨1, (p.f2.size : Int), noText⟩ : S70)] (by intro o ho; rw [List.mem_singleton] at ho; rw [ho]; simp only [kindOk]; simp)
    refine s1.trans ?_
    rw [cutH_zero, DL.eq_2 p a, if_pos p2, PL.eq_2 p a, if_pos p2]
    refine ref_keep first (DL a) (DL (cutH (q :: b) y)) (PL a) (PL (cutH (q :: b) y)) p.f2 ?_
    by_cases hq2 : q.f0 = 2
    ·
     left
     cases first with
     | false => rfl
     | true => exact absurd ⟨hq2, .inl rfl⟩ c
    ·
     right
     exact PL_head hq2 (cutOk_num hy hoq hq2)
   ·
    rw [if_neg p2]
    have q2 : q.f0 ≠ 2 := fun h => c ⟨h, .inr p2⟩
    have hxl := cutOk_num hx hop p2
    have hyl := cutOk_num hy hoq q2
    obtain ⟨n, hn⟩ : ∃ n, n = if q.f1 - y < p.f1 - x then q.f1 - y else p.f1 - x := ⟨_, rfl⟩
    have hx0 := hx.1
    have hy0 := hy.1
    have hn1 : 1 ≤ n := by rw [hn]; split <;> omega
    have hnx : x + n ≤ p.f1 := by rw [hn]; split <;> omega
    have hny : y + n ≤ q.f1 := by rw [hn]; split <;> omega
    have hone : x + n = p.f1 ∨ y + n = q.f1 := by rw [hn]; split <;> omega
    dsimp only
    rw [← hn]
    have hfa2 := cut_from (a := a) (x := x) (n := n) p2
    have hfb2 := cut_from (a := b) (x := y) (n := n) q2
    have ih := over_ref first k _ _ _ _ (ok_next (P := x + n = p.f1) ha) (ok_next (P := y + n = q.f1) hb) (cutOk_next (a := a) hx0 (show 0 ≤ n by omega) p2 hnx) (cutOk_next (a := b) hy0 (show 0 ≤ n by omega) q2 hny) (by omega) (by
     rcases hone with h | h
     ·
      rw [if_pos h]
      split
      ·
       omega
      ·
       rw [List.length_cons]; omega
     ·
      rw [if_pos h]
      split
      ·
       omega
      ·
       rw [List.length_cons]; omega)
    have hp13 : p.f0 = 1 ∨ p.f0 = 3 := by rcases opOk_cases hop with ⟨k1, k2, k3⟩ | ⟨k1, k2, k3⟩ <;> omega
    have hq13 : q.f0 = 1 ∨ q.f0 = 3 := by rcases opOk_cases hoq with ⟨k1, k2, k3⟩ | ⟨k1, k2, k3⟩ <;> omega
    have ch := ref_chunk first (p.f0 == 3) (q.f0 == 3) (DL (cutH (if x + n = p.f1 then a else p :: a) (if x + n = p.f1 then 0 else x + n))) (DL (cutH (if y + n = q.f1 then b else q :: b) (if y + n = q.f1 then 0 else y + n)))
     (PL (cutH (if x + n = p.f1 then a else p :: a) (if x + n = p.f1 then 0 else x + n))) (PL (cutH (if y + n = q.f1 then b else q :: b) (if y + n = q.f1 then 0 else y + n))) n.toNat
    rw [← PL_next p2 (by omega) hnx, ← PL_next q2 (by omega) hny, ← DL_next p2 (by omega) hnx, ← DL_next q2 (by omega) hny, show ((n.toNat : Nat) : Int) = n by omega] at ch
    have hkq : (if (q.f0 == 3) = true then (3 : Int) else 1) = q.f0 := by
     rcases hq13 with h | h <;> rw [h] <;> rfl
    rw [hkq] at ch
    have hpre : (if p.f0 = 1 then [(⟨q.f0, n, noText⟩ : S70)] else []) = (if (p.f0 == 3) = true then [] else [(⟨q.f0, n, noText⟩ : S70)]) := by
     rcases hp13 with h | h <;> rw [h] <;> rfl
    rw [hpre]
    refine (ih.right _ ?_).trans ch
    intro o ho
    split at ho
    ·
     cases ho
    ·
     exact okone q.f0 n _ (.inl ⟨hq13, by omega⟩) _ ho
theorem over_ref_all {a b : List S70} (first : Bool) (ha : canB a = true) (hb : canB b = true) (hf : fromOf a = fromOf b) :
  Eqv (overOps first (a.length + b.length + 1) a 0 b 0) (refOps first (DL a) (DL b) (PL a) (PL b)) := by
 have := over_ref first (a.length + b.length + 1) a b 0 0 (chainOk_opOk (canB_lens ha).1) (chainOk_opOk (canB_lens hb).1) ⟨Int.le_refl 0, .inl rfl⟩ ⟨Int.le_refl 0, .inl rfl⟩ (by rw [cutH_zero, cutH_zero]; exact hf) (by omega)
 rwa [cutH_zero, cutH_zero] at this
theorem DL_len : ∀ {d : List S70}, (∀ o ∈ d, opOk o = true) → ((DL d).length : Int) = fromOf d
 | [], _ => rfl
 | o :: d, h => by
  have ih := DL_len (d := d) (fun p hp => h p (List.mem_cons_of_mem _ hp))
  have ho := h o List.mem_cons_self
  rw [DL, fromOf_cons]
  rcases opOk_cases ho with ⟨k1, k2, k3⟩ | ⟨k1, k2, k3⟩
  ·
   rw [if_neg (by omega), if_neg (by omega), List.length_append, List.length_replicate]; omega
  ·
   rw [if_pos k1, if_pos k1]; omega
theorem PL_len : ∀ {d : List S70}, (∀ o ∈ d, opOk o = true) → ((PL d).length : Int) = fromOf d + 1
 | [], _ => rfl
 | o :: d, h => by
  have ih := PL_len (d := d) (fun p hp => h p (List.mem_cons_of_mem _ hp))
  have ho := h o List.mem_cons_self
  have hf := fromOf_nonneg (d := d) (fun p hp => kindOk_posN (opOk_kindOk (h p (List.mem_cons_of_mem _ hp))))
  rw [PL, fromOf_cons]
  rcases opOk_cases ho with ⟨k1, k2, k3⟩ | ⟨k1, k2, k3⟩
  ·
   rw [if_neg (by omega), if_neg (by omega), List.length_append, List.length_replicate]; omega
  ·
   rw [if_pos k1, if_pos k1, attach, List.length_cons, List.length_tail]; omega
end Go.Proofs.Ytidihnnkcmeaeaa.A
