/- ShiftChain in plain words: it answers true where what comes in is of small bulk. Plain lists. -/
import Derived.Test.YtidihnnkcmeaeaaP12
import Derived.Test.YtidihnnkcmeaeaaMG6
import Derived.Test.YtidihnnkcmeaeaaA43
namespace Go.Proofs.Ytidihnnkcmeaeaa.A
open Go.RowKit Go.Proofs.YtidihnnkcmeaeaaW.PrintWords Go.Proofs.YtidihnnkcmeaeaaW.PrintLast
set_option linter.unusedVariables false
def chainR : List (List S70) → List S70 → List (List S70) → List S70 × List (List S70) × Int
 | [], l, out => (l, out, 0)
 | a :: aa, l, out => match shift_Both.f a l with
  | some (x, y, e) => if e = 0 then chainR aa y (out ++ [x]) else ([], [], e)
  | none => ([], [], 0)
def pairsOk : List (List S70) → Bool
 | a :: b :: aa => decide (toOf a = fromOf b) && pairsOk (b :: aa)
 | _ => true
def chainAll (aa : List (List S70)) (b : List S70) : List S70 × List (List S70) × Int :=
 if (aa ++ [b]).all canB = true then (if fitsFrom (fromOf b) aa = true then chainR aa b [] else ([], [], 131)) else ([], [], 130)
theorem chainR_cons {a l x y : List S70} {e : Int} {aa out : List (List S70)} (h : shift_Both.f a l = some (x, y, e)) : chainR (a :: aa) l out = if e = 0 then chainR aa y (out ++ [x]) else ([], [], e) := by rw [chainR, h]
theorem chainR_prog (rest : List (List S70)) : ∀ (pre : List (List S70)) (l : List S70) (out : List (List S70)), (pre ++ rest).length < 5864062014804 → out.length ≤ pre.length →
  Ev (fun k => shift_Chain.l0 k l out (pre ++ rest) ((pre ++ rest).length : Int) (pre.length : Int)) (chainR rest l out) := by
 induction rest with
 | nil =>
  intro pre l out hl ho
  exact Ev.step (fun k => by rw [shift_Chain.l0, if_neg (by rw [List.append_nil]; omega), chainR]) (Ev.now _)
 | cons a rest ih =>
  intro pre l out hl ho
  have hrd := rd6_of pre a rest
  have hlt : (pre.length : Int) < ((pre ++ a :: rest).length : Int) := by rw [List.length_append, List.length_cons]; omega
  have hw1 : wrap64 ((pre.length : Int) + 1) = ((pre ++ [a]).length : Int) := by rw [List.length_append, List.length_singleton]; rw [List.length_append, List.length_cons] at hl; unfold wrap64; omega
  have he : pre ++ a :: rest = (pre ++ [a]) ++ rest := by rw [List.append_assoc]; rfl
  have hout : out.length < 5864062014805 := by rw [List.length_append] at hl; omega
  obtain ⟨x, y, e, hb, _, _⟩ := both_short a l
  rw [chainR_cons hb]
  by_cases h : e = 0
  ·
   rw [if_pos h]
   refine Ev.step (fun k => by rw [shift_Chain.l0, if_pos hlt, if_pos (by omega), if_pos hlt, hrd, hb, Option.bind_some, if_pos h, if_pos hout, hw1]) ?_
   have := ih (pre ++ [a]) y (out ++ [x]) (by rw [← he]; exact hl) (by simp only [List.length_append, List.length_singleton]; omega)
   rw [← he] at this
   exact this
  ·
   rw [if_neg h]
   exact Ev.step (fun k => by rw [shift_Chain.l0, if_pos hlt, if_pos (by omega), if_pos hlt, hrd, hb, Option.bind_some, if_neg h]) (Ev.now _)
theorem chain_prog {aa : List (List S70)} {b : List S70} (hl : aa.length < 5864062014804) (hd : ∀ d ∈ aa, d.length ≤ 9223372036854775807) (hb : b.length ≤ 9223372036854775807) : Ev (fun k => shift_Chain.f k aa b) (chainAll aa b) := by
 have hch := chained_ev (b := b) hl hd hb
 unfold chainAll
 by_cases hall : (aa ++ [b]).all canB = true
 ·
  rw [if_pos hall] at hch ⊢
  have hcb := List.all_eq_true.1 hall b (by simp)
  by_cases hf : fitsFrom (fromOf b) aa = true
  ·
   rw [if_pos hf] at hch ⊢
   have hcl := canB_lens hcb
   have hcan : delta_Canon.f b = some (b, 0) := by
    unfold delta_Canon.f
    rw [if_pos (List.all_eq_true.mpr (okc hcl.1)), if_pos ⟨hcl.2.1, hcl.2.2⟩, canon_id hcl.1]
   refine Ev.bind hch ?_
   refine Ev.congr (fun k => by rw [if_pos rfl, hcan, Option.bind_some]) ?_
   simpa using chainR_prog aa [] b [] (by simpa using hl) (by simp)
  ·
   rw [if_neg hf] at hch ⊢
   exact Ev.bind hch (Ev.now _)
 ·
  rw [if_neg hall] at hch ⊢
  exact Ev.bind hch (Ev.now _)
theorem both_parts {a l x y : List S70} (h : shift_Both.f a l = some (x, y, 0)) : canB y = true ∧ fromOf y = toOf a := by
 obtain ⟨x', e1, hx, hxx⟩ := over_res l a true
 obtain ⟨y', e2, hy, hyy⟩ := over_res a l false
 unfold shift_Both.f at h
 rw [hx, Option.bind_some] at h
 by_cases h1 : e1 = 0
 ·
  rw [if_pos h1, hy, Option.bind_some] at h
  by_cases h2 : e2 = 0
  ·
   rw [if_pos h2] at h
   simp only [Option.some.injEq, Prod.mk.injEq] at h
   rcases hyy with ⟨q, _⟩ | ⟨_, _, _, _, q1, q2, _⟩
   ·
    exact absurd h2 q
   ·
    rw [← h.2.1]; exact ⟨q1, q2⟩
  ·
   rw [if_neg h2] at h
   simp only [Option.some.injEq, Prod.mk.injEq] at h
   exact absurd h.2.2 h2
 ·
  rw [if_neg h1] at h
  simp only [Option.some.injEq, Prod.mk.injEq] at h
  exact absurd h.2.2 h1
theorem chainR_ref (rest : List (List S70)) : ∀ (pre : List (List S70)) (l : List S70) (out : List (List S70)), (pre ++ rest).length < 5864062014804 → out.length ≤ pre.length → (∀ d ∈ rest, txts d ≤ 300000000) → txts l ≤ 300000000 →
  Ev (fun k => galleyref14_Chain.l2 k (pre ++ rest) l out (pre.length : Int)) (chainR rest l out) := by
 induction rest with
 | nil =>
  intro pre l out hl ho _ _
  exact Ev.step (fun k => by rw [galleyref14_Chain.l2, if_neg (by rw [List.append_nil]; omega), chainR]) (Ev.now _)
 | cons a rest ih =>
  intro pre l out hl ho hd ht
  have hrd := rd6_of pre a rest
  have hlt : (pre.length : Int) < ((pre ++ a :: rest).length : Int) := by rw [List.length_append, List.length_cons]; omega
  have hw1 : wrap64 ((pre.length : Int) + 1) = ((pre ++ [a]).length : Int) := by rw [List.length_append, List.length_singleton]; rw [List.length_append, List.length_cons] at hl; unfold wrap64; omega
  have he : pre ++ a :: rest = (pre ++ [a]) ++ rest := by rw [List.append_assoc]; rfl
  have hout : out.length < 5864062014805 := by rw [List.length_append] at hl; omega
  obtain ⟨x, y, e, hb, _, _⟩ := both_short a l
  have hrb := (refBoth_f (hd a List.mem_cons_self) ht).trans hb
  rw [chainR_cons hb]
  by_cases h : e = 0
  ·
   rw [if_pos h]
   subst h
   obtain ⟨y1, y2⟩ := both_parts hb
   have hty := txts_le (chainOk_opOk (canB_lens y1).1)
   have hty2 := (canB_lens y1).2.2
   refine Ev.step (fun k => by rw [galleyref14_Chain.l2, if_pos hlt, if_pos (by omega), hrd, hrb, Option.bind_some, if_pos rfl, if_pos hout, hw1]) ?_
   have := ih (pre ++ [a]) y (out ++ [x]) (by rw [← he]; exact hl) (by simp only [List.length_append, List.length_singleton]; omega) (fun d hd' => hd d (List.mem_cons_of_mem _ hd')) (by omega)
   rw [← he] at this
   exact this
  ·
   rw [if_neg h]
   exact Ev.step (fun k => by rw [galleyref14_Chain.l2, if_pos hlt, if_pos (by omega), hrd, hrb, Option.bind_some, if_neg h]) (Ev.now _)
theorem refLens14 {d : List S70} (h : canB d = true) : Ev (fun k => galleyref14_lens.f k d) (fromOf d, toOf d) := by
 obtain ⟨c1, c2, c3⟩ := canB_lens h
 have := canB_length h
 exact lens14_ev (by omega) (chainOk_opOk c1) (by omega) (by omega)
theorem chain_l1 {aa : List (List S70)} {b : List S70} {R : List S70 × List (List S70) × Int} (hl : aa.length < 5864062014804) (hc : ∀ d ∈ aa, canB d = true) (hend : Ev (fun k => galleyref14_Chain.l2 k aa b [] 0) R) :
  ∀ (rest pre : List (List S70)), aa = pre ++ rest → Ev (fun k => galleyref14_Chain.l1 k aa b (pre.length : Int)) (if pairsOk rest = true then R else ([], [], 131))
 | [], pre, he => by
  rw [show pairsOk [] = true from rfl, if_pos rfl]
  have : aa.length = pre.length := by rw [he, List.append_nil]
  exact Ev.step (fun k => by rw [galleyref14_Chain.l1, if_neg (by unfold wrap64; omega)]) hend
 | [a], pre, he => by
  rw [show pairsOk [a] = true from rfl, if_pos rfl]
  have : aa.length = pre.length + 1 := by rw [he, List.length_append]; rfl
  exact Ev.step (fun k => by rw [galleyref14_Chain.l1, if_neg (by unfold wrap64; omega)]) hend
 | a :: a' :: rest, pre, he => by
  have hlen : aa.length = pre.length + (rest.length + 2) := by rw [he, List.length_append]; rfl
  have hw1 : wrap64 ((pre.length : Int) + 1) = ((pre ++ [a]).length : Int) := by rw [List.length_append, List.length_singleton]; unfold wrap64; omega
  have he2 : aa = (pre ++ [a]) ++ (a' :: rest) := by rw [he, List.append_assoc]; rfl
  have hrd : rd_L6 aa (pre.length : Int) = a := by rw [he]; exact rd6_of pre a _
  have hrd2 : rd_L6 aa ((pre ++ [a]).length : Int) = a' := by rw [he2]; exact rd6_of (pre ++ [a]) a' rest
  have hpa : ((pre ++ [a]).length : Int) = (pre.length : Int) + 1 := by rw [List.length_append, List.length_singleton]; omega
  have ih := chain_l1 hl hc hend (a' :: rest) (pre ++ [a]) he2
  have ca := hc a (by rw [he]; simp)
  have ca' := hc a' (by rw [he]; simp)
  refine Ev.step (fun k => by rw [galleyref14_Chain.l1, hw1, if_pos (by omega), if_pos (by omega), if_pos (by omega), hrd]) ?_
  refine Ev.bind (refLens14 ca) ?_
  refine Ev.congr (fun k => by rw [if_pos (by omega), hrd2]) ?_
  refine Ev.bind (refLens14 ca') ?_
  by_cases hp : toOf a = fromOf a'
  ·
   have : pairsOk (a :: a' :: rest) = pairsOk (a' :: rest) := by rw [pairsOk, decide_eq_true hp, Bool.true_and]
   rw [this]
   exact Ev.congr (fun k => by rw [if_pos hp]) ih
  ·
   have : pairsOk (a :: a' :: rest) = false := by rw [pairsOk, decide_eq_false hp, Bool.false_and]
   rw [this, if_neg (by decide)]
   exact Ev.congr (fun k => by rw [if_neg hp]) (Ev.now _)
theorem chain_l0 {aa : List (List S70)} {b : List S70} {R : List S70 × List (List S70) × Int} (hl : aa.length < 5864062014804) (hd : ∀ d ∈ aa, d.length ≤ 9223372036854775807 ∧ txts d ≤ 300000000) (hb : b.length ≤ 9223372036854775807 ∧ txts b ≤ 300000000) :
  ∀ (rest pre : List (List S70)), aa = pre ++ rest → (rest.all canB = true → canB b = true → Ev (fun k => galleyref14_Chain.l1 k aa b 0) R) →
   Ev (fun k => galleyref14_Chain.l0 k aa b (pre.length : Int)) (if (rest ++ [b]).all canB = true then R else ([], [], 130))
 | [], pre, he, hend => by
  have hlen : aa.length = pre.length := by rw [he, List.append_nil]
  have hv := valid14_ev b hb.1 hb.2
  refine Ev.step (fun k => by rw [galleyref14_Chain.l0, if_neg (by omega)]) ?_
  refine Ev.bind hv ?_
  cases hc : canB b with
  | true =>
   rw [if_pos (by simp [hc])]
   exact Ev.congr (fun k => by rw [if_pos rfl]) (hend rfl hc)
  | false =>
   rw [if_neg (by simp [hc])]
   exact Ev.congr (fun k => by rw [if_neg (by decide)]) (Ev.now _)
 | a :: rest, pre, he, hend => by
  have hlen : aa.length = pre.length + (rest.length + 1) := by rw [he, List.length_append]; rfl
  have hw1 : wrap64 ((pre.length : Int) + 1) = ((pre ++ [a]).length : Int) := by rw [List.length_append, List.length_singleton]; unfold wrap64; omega
  have he2 : aa = (pre ++ [a]) ++ rest := by rw [he, List.append_assoc]; rfl
  have hrd : rd_L6 aa (pre.length : Int) = a := by rw [he]; exact rd6_of pre a _
  have hda := hd a (by rw [he]; simp)
  have hv := valid14_ev a hda.1 hda.2
  refine Ev.step (fun k => by rw [galleyref14_Chain.l0, if_pos (by omega), if_pos (by omega), hrd, hw1]) ?_
  refine Ev.bind hv ?_
  cases hc : canB a with
  | true =>
   have ih := chain_l0 (R := R) hl hd hb rest (pre ++ [a]) he2 (fun h1 h2 => hend (by rw [List.all_cons, hc, h1]; rfl) h2)
   have : ((a :: rest) ++ [b]).all canB = (rest ++ [b]).all canB := by rw [List.cons_append, List.all_cons, hc, Bool.true_and]
   rw [this]
   exact Ev.congr (fun k => by rw [if_pos rfl]) ih
  | false =>
   rw [if_neg (by rw [List.cons_append, List.all_cons, hc]; simp)]
   exact Ev.congr (fun k => by rw [if_neg (by decide)]) (Ev.now _)
theorem fits_pairs : ∀ (aa : List (List S70)) (x : Int), fitsFrom x aa = true ↔ pairsOk aa = true ∧ ∀ a t, aa = a :: t → fromOf a = x
 | [], x => by simp [fitsFrom, pairsOk]
 | [a], x => by simp [fitsFrom, pairsOk]
 | a :: a' :: t, x => by
  have ih := fits_pairs (a' :: t) (toOf a)
  rw [fitsFrom, Bool.and_eq_true, decide_eq_true_eq, ih, pairsOk, Bool.and_eq_true, decide_eq_true_eq]
  constructor
  ·
   rintro ⟨h1, h2, h3⟩
   exact ⟨⟨(h3 a' t rfl).symm, h2⟩, fun q s e => by injection e with e1 e2; rw [← e1]; exact h1⟩
  ·
   rintro ⟨⟨h1, h2⟩, h3⟩
   exact ⟨h3 a _ rfl, h2, fun q s e => by injection e with e1 e2; rw [← e1]; exact h1.symm⟩
theorem both_unfit {a b : List S70} (ha : canB a = true) (hb : canB b = true) (h : fromOf a ≠ fromOf b) : shift_Both.f a b = some ([], [], 131) := by
 unfold shift_Both.f shift_Over.f
 rw [ha, hb, Bool.and_self, if_pos rfl, if_neg (fun e => h e.symm), Option.bind_some, if_neg (by decide)]
theorem chain_ref {aa : List (List S70)} {b : List S70} (hl : aa.length < 5864062014804) (hd : ∀ d ∈ aa, d.length ≤ 9223372036854775807 ∧ txts d ≤ 300000000) (hb : b.length ≤ 9223372036854775807 ∧ txts b ≤ 300000000) : Ev (fun k => galleyref14_Chain.f k aa b) (chainAll aa b) := by
 unfold galleyref14_Chain.f chainAll
 have h2 := chainR_ref aa [] b [] (by simpa using hl) (by simp) (fun d h => (hd d h).2) hb.2
 simp only [List.nil_append, List.length_nil] at h2
 refine chain_l0 hl hd hb aa [] rfl (fun h3 h4 => ?_)
 have hc := fun d h => List.all_eq_true.1 h3 d h
 have h5 := chain_l1 hl hc (R := chainR aa b []) (by simpa using h2) aa [] rfl
 simp only [List.length_nil] at h5
 by_cases hf : fitsFrom (fromOf b) aa = true
 ·
  rw [if_pos hf]
  rw [if_pos ((fits_pairs aa _).1 hf).1] at h5
  simpa using h5
 ·
  rw [if_neg hf]
  by_cases hp : pairsOk aa = true
  ·
   rw [if_pos hp] at h5
   have : chainR aa b [] = ([], [], 131) := by
    cases aa with
    | nil => exact absurd rfl hf
    | cons a t =>
     have hne : fromOf a ≠ fromOf b := fun e => hf ((fits_pairs (a :: t) _).2 ⟨hp, fun q s e2 => by injection e2 with e3 e4; rw [← e3]; exact e⟩)
     rw [chainR_cons (both_unfit (hc a List.mem_cons_self) h4 hne), if_neg (by decide)]
   rw [this] at h5
   simpa using h5
  ·
   rw [if_neg hp] at h5
   simpa using h5
theorem sameAll_go : ∀ (rest pre : List (List S70)), (pre ++ rest).length ≤ 9223372036854775806 → (∀ d ∈ rest, d.length ≤ 9223372036854775807) → Ev (fun k => galleyref14_SameAll.l0 k (pre ++ rest) (pre ++ rest) (pre.length : Int)) true
 | [], pre, hl, _ => Ev.step (fun k => by rw [galleyref14_SameAll.l0, if_neg (by rw [List.append_nil]; omega)]) (Ev.now _)
 | d :: rest, pre, hl, hd => by
  have hrd := rd6_of pre d rest
  have hlt : (pre.length : Int) < ((pre ++ d :: rest).length : Int) := by rw [List.length_append, List.length_cons]; omega
  have hw1 : wrap64 ((pre.length : Int) + 1) = ((pre ++ [d]).length : Int) := by rw [List.length_append, List.length_singleton]; rw [List.length_append, List.length_cons] at hl; unfold wrap64; omega
  have he : pre ++ d :: rest = (pre ++ [d]) ++ rest := by rw [List.append_assoc]; rfl
  have ih := sameAll_go rest (pre ++ [d]) (by rw [← he]; exact hl) (fun x hx => hd x (List.mem_cons_of_mem _ hx))
  rw [← he] at ih
  refine Ev.step (fun k => by rw [galleyref14_SameAll.l0, if_pos hlt, if_pos (by omega), if_pos hlt, hrd, hw1]) ?_
  refine Ev.bind (same14_one d (hd d List.mem_cons_self)) ?_
  exact Ev.congr (fun k => by rw [if_pos rfl]) ih
theorem sameAll_one (l : List (List S70)) (hl : l.length ≤ 9223372036854775806) (hd : ∀ d ∈ l, d.length ≤ 9223372036854775807) : Ev (fun k => galleyref14_SameAll.f k l l) true := by
 unfold galleyref14_SameAll.f
 refine Ev.congr (fun k => by rw [if_pos rfl]) ?_
 simpa using sameAll_go l [] (by simpa using hl) hd
theorem chainR_short : ∀ (aa : List (List S70)) (l : List S70) (out : List (List S70)), l.length ≤ 536870912 → (∀ d ∈ out, d.length ≤ 536870912) →
  (chainR aa l out).1.length ≤ 536870912 ∧ (chainR aa l out).2.1.length ≤ out.length + aa.length ∧ ∀ d ∈ (chainR aa l out).2.1, d.length ≤ 536870912
 | [], l, out, hl, ho => by rw [chainR]; exact ⟨hl, by simp, ho⟩
 | a :: aa, l, out, hl, ho => by
  obtain ⟨x, y, e, hb, h1, h2⟩ := both_short a l
  rw [chainR_cons hb]
  by_cases h : e = 0
  ·
   rw [if_pos h]
   obtain ⟨i1, i2, i3⟩ := chainR_short aa y (out ++ [x]) h2 (fun d hd => by
    rcases List.mem_append.1 hd with hd | hd
    ·
     exact ho d hd
    ·
     rw [List.mem_singleton] at hd; rw [hd]; exact h1)
   exact ⟨i1, by simp only [List.length_append, List.length_singleton] at i2; simp only [List.length_cons]; omega, i3⟩
  ·
   rw [if_neg h]
   exact ⟨by simp, by simp, by simp⟩
theorem chainAll_short {aa : List (List S70)} {b : List S70} : (chainAll aa b).1.length ≤ 536870912 ∧ (chainAll aa b).2.1.length ≤ aa.length ∧ ∀ d ∈ (chainAll aa b).2.1, d.length ≤ 536870912 := by
 unfold chainAll
 by_cases h : (aa ++ [b]).all canB = true
 ·
  rw [if_pos h]
  by_cases hf : fitsFrom (fromOf b) aa = true
  ·
   rw [if_pos hf]
   have := chainR_short aa b [] (canB_length (List.all_eq_true.1 h b (by simp))) (by simp)
   simpa using this
  ·
   rw [if_neg hf]; simp
 ·
  rw [if_neg h]; simp
theorem copy_loop {aa : List (List S70)} {b : List S70} (hl : aa.length < 5864062014804) (hd : ∀ d ∈ aa, d.length < 4398046511104) {R : Bool}
  (hend : Ev (fun k => (galleylaw14_copied.f b).bind fun t1256 => ((shift_Chain.f k aa t1256).bind fun bt1259 => ((galleyref14_Chain.f k aa b).bind fun bt1266 => ((galleyref14_Same.f k bt1259.1 bt1266.1).bind fun t1273 => (if t1273 = true then ((galleyref14_SameAll.f k bt1259.2.1 bt1266.2.1).bind fun t1274 => (if t1274 = true then (some (bt1259.2.2 == bt1266.2.2)) else (some false))) else (some false)))))) R) :
  ∀ (rest pre : List (List S70)), aa = pre ++ rest → Ev (fun k => galleylaw14_ShiftChain.l0 k aa b pre aa (aa.length : Int) (pre.length : Int)) R
 | [], pre, he => by
  have hp : pre = aa := by rw [he, List.append_nil]
  refine Ev.step (fun k => by rw [galleylaw14_ShiftChain.l0, if_neg (by rw [hp]; omega), hp]) ?_
  exact hend
 | a :: rest, pre, he => by
  have hlen : aa.length = pre.length + (rest.length + 1) := by rw [he, List.length_append]; rfl
  have hw1 : wrap64 ((pre.length : Int) + 1) = ((pre ++ [a]).length : Int) := by rw [List.length_append, List.length_singleton]; unfold wrap64; omega
  have he2 : aa = (pre ++ [a]) ++ rest := by rw [he, List.append_assoc]; rfl
  have hrd : rd_L6 aa (pre.length : Int) = a := by rw [he]; exact rd6_of pre a _
  have hc := copied14 (hd a (by rw [he]; simp))
  refine Ev.step (fun k => by rw [galleylaw14_ShiftChain.l0, if_pos (by omega), if_pos (by omega), if_pos (by omega), hrd, hc, Option.bind_some, if_pos (by omega), hw1]) ?_
  exact copy_loop hl hd hend rest (pre ++ [a]) he2
theorem shiftChain_law (aa : List (List S70)) (b : List S70) (ha : aa.length ≤ 1048576 ∧ ∀ d ∈ aa, d.length ≤ 1048576 ∧ txts d ≤ 1048576) (hb : b.length ≤ 1048576 ∧ txts b ≤ 1048576) : Ev (fun k => galleylaw14_ShiftChain.f k aa b) true := by
 have hyes : Ev (fun k => galleylaw14_ShiftChain.j0 k aa b true) true := Ev.step (fun k => by rw [galleylaw14_ShiftChain.j0, if_pos rfl]) (Ev.now _)
 unfold galleylaw14_ShiftChain.f
 refine Ev.bind (a := true) (Ev.now _) ?_
 refine Ev.congr (fun k => by rw [if_pos rfl]) ?_
 obtain ⟨g, hg⟩ := great_ev aa (by omega) (fun d hd => ⟨by have := (ha.2 d hd).1; omega, by have := (ha.2 d hd).2; omega⟩)
 refine Ev.bind hg ?_
 cases g with
 | true => exact Ev.congr (fun k => by rw [if_pos rfl]) hyes
 | false =>
  refine Ev.congr (fun k => by rw [if_neg (by decide)]) ?_
  obtain ⟨g2, hg2⟩ := great_ev [b] (by simp) (fun d hd => by rw [List.mem_singleton] at hd; rw [hd]; exact ⟨by omega, by omega⟩)
  refine Ev.bind hg2 ?_
  cases g2 with
  | true => exact hyes
  | false =>
   refine Ev.step (fun k => by rw [galleylaw14_ShiftChain.j0, if_neg (by decide)]) ?_
   refine copy_loop (aa := aa) (b := b) (R := true) (by omega) (fun d hd => by have := (ha.2 d hd).1; omega) ?_ aa [] rfl
   refine Ev.bind (a := b) (by rw [copied14 (by omega)]; exact Ev.now _) ?_
   refine Ev.bind (chain_prog (by omega) (fun d hd => by have := (ha.2 d hd).1; omega) (by omega)) ?_
   refine Ev.bind (chain_ref (by omega) (fun d hd => ⟨by have := (ha.2 d hd).1; omega, by have := (ha.2 d hd).2; omega⟩) ⟨by omega, by omega⟩) ?_
   obtain ⟨s1, s2, s3⟩ := chainAll_short (aa := aa) (b := b)
   refine Ev.bind (same14_one _ (by omega)) ?_
   refine Ev.congr (fun k => by rw [if_pos rfl]) ?_
   refine Ev.bind (sameAll_one _ (by omega) (fun d hd => by have := s3 d hd; omega)) ?_
   refine Ev.congr (fun k => by rw [if_pos rfl, beq_self_eq_true]) ?_
   exact Ev.now _
end Go.Proofs.Ytidihnnkcmeaeaa.A
