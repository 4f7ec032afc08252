/- DeltaSame in plain words: it answers true. Plain lists. No condition but sizes. -/
import Derived.Test.YtidihnnkcmeaeaaP9a
import Derived.Test.YtidihnnkcmeaeaaP8
import Derived.Test.YtidihnnkcmeaeaaL5
import Derived.Test.YtidihnnkcmeaeaaL2a
import Derived.Test.YtidihnnkcmeaeaaL3a
import Derived.Test.YtidihnnkcmeaeaaA46
namespace Go.Proofs.Ytidihnnkcmeaeaa.A
open Go.RowKit Go.Proofs.YtidihnnkcmeaeaaW.PrintWords Go.Proofs.YtidihnnkcmeaeaaW.PrintLast
set_option linter.unusedVariables false

theorem ris_puts {n : Int} : ∀ {cs : List S91} {b : Bool} {lo : Int}, ris n b lo cs → putsOf cs ≤ growsBy cs + (n - lo)
  | [], b, lo, h => by
    have : lo ≤ n := h
    simp only [putsOf, growsBy]; omega
  | c :: cs, b, lo, h => by
    obtain ⟨h1, _, h2, h3, h4⟩ := h
    have := ris_puts h4
    simp only [putsOf, growsBy]; omega
theorem ris_rises {n : Int} : ∀ {cs : List S91} {b : Bool} {lo : Int}, ris n b lo cs → risesFrom lo cs = true
  | [], b, lo, h => rfl
  | c :: cs, b, lo, h => by
    obtain ⟨h1, _, h2, h3, h4⟩ := h
    simp only [risesFrom, ris_rises h4, Bool.and_true, decide_eq_true_eq]; exact h1
theorem ris_in {n : Int} : ∀ {cs : List S91} {b : Bool} {lo : Int}, 0 ≤ lo → ris n b lo cs → cs.all (inRange n) = true
  | [], b, lo, _, h => rfl
  | c :: cs, b, lo, h0, h => by
    obtain ⟨h1, _, h2, h3, h4⟩ := h
    rw [List.all_cons, ris_in (by omega) h4, Bool.and_true]
    simp only [inRange, Bool.and_eq_true, decide_eq_true_eq]
    exact ⟨⟨by omega, h2⟩, h3⟩
theorem ofOps_ok {n : Int} : ∀ {cs : List S91} {b : Bool} {lo : Int}, ris n b lo cs → (∀ o ∈ ofOps n lo cs, kindOk o = true) ∧ fromOf (ofOps n lo cs) = n - lo
  | [], b, lo, h => by
    have : lo ≤ n := h
    rw [ofOps]
    refine ⟨fun o ho => ?_, by simp [fromOf]⟩
    rw [List.mem_singleton] at ho
    rw [ho]; simp only [kindOk]; simp; omega
  | c :: cs, b, lo, h => by
    obtain ⟨h1, _, h2, h3, h4⟩ := h
    obtain ⟨i1, i2⟩ := ofOps_ok h4
    rw [ofOps]
    refine ⟨fun o ho => ?_, ?_⟩
    · simp only [List.mem_cons] at ho
      rcases ho with rfl | rfl | rfl | ho
      · simp only [kindOk]; simp; omega
      · rfl
      · simp only [kindOk]; simp; omega
      · exact i1 o ho
    · rw [fromOf_cons, fromOf_cons, fromOf_cons, if_neg (show ¬ (1 : Int) = 2 by decide), if_pos rfl, if_neg (show ¬ (3 : Int) = 2 by decide), i2]; dsimp only; omega
theorem of_apc {α : Type} {g : ByteArray → List α} {n : Int} : ∀ {cs : List S91} {b : Bool} {lo : Int} {xs : List α}, ris n b lo cs → (xs.length : Int) = n - lo → ap g (ofOps n lo cs) xs = apc g lo cs xs
  | [], b, lo, xs, h, hx => by
    rw [ofOps, apc, ap_keep (o := ⟨1, n - lo, noText⟩) rfl, ap]
    simp only
    rw [List.append_nil, List.take_of_length_le (by omega)]
  | c :: cs, b, lo, xs, h, hx => by
    obtain ⟨h1, _, h2, h3, h4⟩ := h
    rw [ofOps, apc, ap_keep (o := ⟨1, c.f0 - lo, noText⟩) rfl, ap_put (o := ⟨2, 0, c.f2⟩) rfl, ap_drop (o := ⟨3, c.f1 - c.f0, noText⟩) rfl]
    simp only
    rw [List.drop_drop, of_apc h4 (by rw [List.length_drop]; omega), show (c.f0 - lo).toNat + (c.f1 - c.f0).toNat = (c.f1 - lo).toNat by omega]

theorem of_changes {d : List S70} (h : canB d = true) : delta_Of.f (fromOf d) (chs 0 d) = some (d, 0) := by
  obtain ⟨c1, c2, c3⟩ := canB_lens h
  have hf := fromOf_nonneg (d := d) (fun o ho => kindOk_posN (okc c1 o ho))
  obtain ⟨r, _, gr⟩ := chs_ris d 0 (fromOf d) c1 (by omega) (fun _ _ _ => trivial)
  have hp := ris_puts r
  obtain ⟨o1, o2⟩ := ofOps_ok r
  obtain ⟨s1, s2⟩ := canon_sem o1
  unfold delta_Of.f
  rw [if_pos (by omega), if_pos ⟨hf, c2⟩, if_pos (ris_in (by omega) r), if_pos (ris_rises r), if_pos (by omega)]
  have : canon (ofOps (fromOf d) 0 (chs 0 d)) = d := by
    refine one_delta s1 c1 (by rw [s2.from_, o2]; omega) (fun xs hx => ?_)
    rw [s2.from_, o2] at hx
    rw [s2.sem wr_gs xs (by rw [s2.from_, o2]; omega), of_apc r (by omega), ap_apc wr_gs d 0 xs c1 (by omega)]
  rw [this]
theorem changes_can {d : List S70} (h : canB d = true) : delta_Changes.f d = some (chs 0 d, 0) := by
  unfold delta_Changes.f
  rw [if_pos h, chg_chs d 0 [] (canB_lens h).1, List.nil_append]
theorem canon_can {d : List S70} (h : canB d = true) : delta_Canon.f d = some (d, 0) := by
  obtain ⟨c1, c2, c3⟩ := canB_lens h
  unfold delta_Canon.f
  rw [if_pos (List.all_eq_true.mpr (okc c1)), if_pos ⟨c2, c3⟩, canon_id c1]

/-- a text of low bytes -/
def lowB (s : ByteArray) : Prop := ∀ i : Nat, i < s.size → bt s (i : Int) < 128
theorem low_mem {s : ByteArray} (h : lowB s) : ∀ y ∈ bytesOf s, 0 ≤ y ∧ y < 128 := by
  intro y hy
  unfold bytesOf at hy
  obtain ⟨b, hb, rfl⟩ := List.mem_map.1 hy
  obtain ⟨i, hi, rfl⟩ := List.getElem_of_mem hb
  have hs : i < s.size := by rw [Array.length_toList] at hi; exact hi
  have := h i hs
  rw [← bt_at s (i : Int) (by simpa using hs)] at this
  exact ⟨Int.natCast_nonneg _, this⟩

def fm : Nat ⊕ Int → Int
  | .inl k => 128 + (k : Int)
  | .inr y => y
theorem ap_map (d : List S70) : ∀ xs : List (Nat ⊕ Int), ap bytesOf d (xs.map fm) = (ap gs d xs).map fm := by
  induction d with
  | nil => intro xs; rw [ap, ap]; rfl
  | cons o d ih =>
    intro xs
    rw [ap, ap]
    by_cases h2 : o.f0 = 2
    · rw [if_pos h2, if_pos h2, ih, List.map_append]
      congr 1
      unfold gs
      rw [List.map_map]
      exact (List.map_id _).symm
    · rw [if_neg h2, if_neg h2]
      by_cases h1 : o.f0 = 1
      · rw [if_pos h1, if_pos h1, List.map_append, ← List.map_take, ← List.map_drop, ih]
      · rw [if_neg h1, if_neg h1, ← List.map_drop, ih]
def good : Nat ⊕ Int → Prop
  | .inl k => k < 128
  | .inr y => 0 ≤ y ∧ y < 128
theorem ap_good (d : List S70) : (∀ o ∈ d, lowB o.f2) → ∀ xs : List (Nat ⊕ Int), (∀ z ∈ xs, good z) → ∀ z ∈ ap gs d xs, good z := by
  induction d with
  | nil => intro _ xs _ z hz; rw [ap] at hz; cases hz
  | cons o d ih =>
    intro hd xs hx z hz
    have hd2 := fun p hp => hd p (List.mem_cons_of_mem _ hp)
    rw [ap] at hz
    by_cases h2 : o.f0 = 2
    · rw [if_pos h2, List.mem_append] at hz
      rcases hz with hz | hz
      · unfold gs at hz
        obtain ⟨y, hy, rfl⟩ := List.mem_map.1 hz
        exact low_mem (hd o (List.mem_cons_self ..)) y hy
      · exact ih hd2 xs hx z hz
    · rw [if_neg h2] at hz
      have hdrop : ∀ z ∈ xs.drop o.f1.toNat, good z := fun z hz => hx z (List.mem_of_mem_drop hz)
      by_cases h1 : o.f0 = 1
      · rw [if_pos h1, List.mem_append] at hz
        rcases hz with hz | hz
        · exact hx z (List.mem_of_mem_take hz)
        · exact ih hd2 _ hdrop z hz
      · rw [if_neg h1] at hz
        exact ih hd2 _ hdrop z hz
theorem fm_inj {z z' : Nat ⊕ Int} (h : good z) (h' : good z') (e : nb (fm z) = nb (fm z')) : z = z' := by
  have hb : ∀ z, good z → nb (fm z) = fm z := by
    intro z hz
    have : 0 ≤ fm z ∧ fm z < 256 := by
      cases z with
      | inl k => have : k < 128 := hz; simp only [fm]; omega
      | inr y => have : 0 ≤ y ∧ y < 128 := hz; simp only [fm]; omega
    unfold nb
    simp
    omega
  rw [hb z h, hb z' h'] at e
  cases z with
  | inl k =>
    cases z' with
    | inl k' => simp only [fm] at e; congr 1; omega
    | inr y' => have : 0 ≤ y' ∧ y' < 128 := h'; simp only [fm] at e; omega
  | inr y =>
    have : 0 ≤ y ∧ y < 128 := h
    cases z' with
    | inl k' => simp only [fm] at e; omega
    | inr y' => simp only [fm] at e; rw [e]
theorem map_good : ∀ {l l' : List (Nat ⊕ Int)}, (∀ z ∈ l, good z) → (∀ z ∈ l', good z) → (l.map fm).map nb = (l'.map fm).map nb → l = l'
  | [], [], _, _, _ => rfl
  | [], _ :: _, _, _, h => by simp at h
  | _ :: _, [], _, _, h => by simp at h
  | a :: l, b :: l', h1, h2, h => by
    simp only [List.map_cons, List.cons.injEq] at h
    rw [fm_inj (h1 a (List.mem_cons_self ..)) (h2 b (List.mem_cons_self ..)) h.1, map_good (fun z hz => h1 z (List.mem_cons_of_mem _ hz)) (fun z hz => h2 z (List.mem_cons_of_mem _ hz)) h.2]

/-- n bytes that are all unlike -/
def unlike (n : Nat) : List Int := (List.range n).map fun (i : Nat) => 128 + (i : Int)
theorem unlike_tk (n : Nat) : unlike n = (tk 0 n).map fm := by
  refine List.ext_getElem? (fun i => ?_)
  by_cases h : i < n
  · rw [List.getElem?_map, tk_at h]
    unfold unlike
    rw [List.getElem?_map, List.getElem?_range h]
    simp [fm]
  · rw [List.getElem?_eq_none (by unfold unlike; simp; omega), List.getElem?_eq_none (by rw [List.length_map, tk_len]; omega)]
theorem same_texts {p q : List S70} {n : Nat} (hn : n ≤ 120) (hp : canB p = true) (hq : canB q = true) (hpn : fromOf p = (n : Int)) (hqn : fromOf q = (n : Int)) (hpl : ∀ o ∈ p, lowB o.f2) (hql : ∀ o ∈ q, lowB o.f2) :
    strOfNums (ap bytesOf p (unlike n)) = strOfNums (ap bytesOf q (unlike n)) ↔ p = q := by
  refine ⟨fun h => ?_, fun h => by rw [h]⟩
  have h1 := congrArg bytesOf h
  rw [nb_bytes, nb_bytes, unlike_tk, ap_map, ap_map] at h1
  have hg : ∀ z ∈ tk 0 n, good z := by
    intro z hz
    obtain ⟨i, hi⟩ := List.mem_iff_getElem?.1 hz
    have hin : i < n := by
      have := (List.getElem?_eq_some_iff.1 hi).1
      rwa [tk_len] at this
    rw [tk_at hin] at hi
    injection hi with hi
    rw [← hi]
    show 0 + i < 128
    omega
  exact uniq p q 0 n (canB_lens hp).1 (canB_lens hq).1 hpn hqn (map_good (ap_good p hpl _ hg) (ap_good q hql _ hg) h1)

theorem rd_inS (pre : List S70) (o : S70) (rest : List S70) : rd_T70 (pre ++ o :: rest) (pre.length : Int) = o := by simp [rd_T70]

theorem same_l1 (x0 : Int) (x7 x8 x94 : List S70) (x95 x96 f0 f1 : Int) (s : ByteArray) (hs : s.size ≤ 1000000000) (hc : lowB s → Ev (fun k => galleylaw13_DeltaSame.l0 k x0 x7 x8 x94 x95 (wrap64 (x96 + 1))) true) :
    ∀ (m j : Nat), m + j = s.size → (∀ i : Nat, i < j → bt s (i : Int) < 128) → Ev (fun k => galleylaw13_DeltaSame.l1 k x0 x7 x8 (j : Int) x94 x95 x96 f0 f1 s) true
  | 0, j, hm, hl => by
    refine Ev.step (fun k => by rw [galleylaw13_DeltaSame.l1, if_neg (by omega)]) ?_
    exact hc (fun i hi => hl i (by omega))
  | m + 1, j, hm, hl => by
    have hw1 : wrap64 ((j : Int) + 1) = ((j + 1 : Nat) : Int) := by unfold wrap64; omega
    by_cases h : bt s (j : Int) ≥ 128
    · exact Ev.step (fun k => by rw [galleylaw13_DeltaSame.l1, if_pos (by omega), if_pos (by omega), if_pos h]) (Ev.now _)
    · refine Ev.step (fun k => by rw [galleylaw13_DeltaSame.l1, if_pos (by omega), if_pos (by omega), if_neg h, hw1]) ?_
      refine same_l1 x0 x7 x8 x94 x95 x96 f0 f1 s hs hc m (j + 1) (by omega) (fun i hi => ?_)
      by_cases e : i = j
      · rw [e]; omega
      · exact hl i (by omega)

theorem same_l0 (x0 : Int) (x7 x8 : List S70) {d : List S70} (hdl : d.length ≤ 2000000000) (hs : ∀ o ∈ d, o.f2.size ≤ 1000000000)
    (hend : (∀ o ∈ d, lowB o.f2) → Ev (fun k => (if 0 ≤ x0 then (if (x0 : Int).toNat ≤ 281474976710656 then ((some (List.replicate (x0 : Int).toNat 0 : List Int)).bind fun y910 => (galleylaw13_DeltaSame.l2 k x7 x8 y910 (y910.length : Int) 0)) else (none)) else (none))) true) :
    ∀ (rest pre : List S70), d = pre ++ rest → (∀ o ∈ pre, lowB o.f2) → Ev (fun k => galleylaw13_DeltaSame.l0 k x0 x7 x8 d (d.length : Int) (pre.length : Int)) true
  | [], pre, he, hl => by
    refine Ev.step (fun k => by rw [galleylaw13_DeltaSame.l0, if_neg (by rw [he, List.append_nil]; omega)]) ?_
    exact hend (by rw [he, List.append_nil]; exact hl)
  | o :: rest, pre, he, hl => by
    have hlen : d.length = pre.length + (rest.length + 1) := by rw [he, List.length_append, List.length_cons]
    have hrd : rd_T70 d (pre.length : Int) = o := by rw [he]; exact rd_inS pre o rest
    have hw1 : wrap64 ((pre.length : Int) + 1) = ((pre ++ [o]).length : Int) := by rw [List.length_append, List.length_singleton]; unfold wrap64; omega
    refine Ev.step (fun k => by rw [galleylaw13_DeltaSame.l0, if_pos (by omega), if_pos (by omega), if_pos (by omega), hrd]) ?_
    refine same_l1 x0 x7 x8 d (d.length : Int) (pre.length : Int) o.f0 o.f1 o.f2 (hs o (by rw [he]; simp)) (fun hlo => ?_) o.f2.size 0 (by omega) (fun i hi => absurd hi (by omega))
    rw [hw1]
    refine same_l0 x0 x7 x8 hdl hs hend rest (pre ++ [o]) (by rw [he, List.append_assoc]; rfl) (fun p hp => ?_)
    rcases List.mem_append.1 hp with hp | hp
    · exact hl p hp
    · rw [List.mem_singleton] at hp; rw [hp]; exact hlo

theorem same_l2 (x7 x8 : List S70) (n : Nat) (hn : n ≤ 120) {R : Bool}
    (hend : Ev (fun k => ((galleylaw13_bytes.f (unlike n)).bind fun t914 => ((galleylaw13_own.f x7).bind fun t917 => ((delta_Apply.f t914 t917).bind fun bt920 => ((galleylaw13_bytes.f (unlike n)).bind fun t924 => ((galleylaw13_own.f x8).bind fun t927 => ((delta_Apply.f t924 t927).bind fun bt930 => (if bt920.2 = 0 then (if bt930.2 = 0 then ((galleylaw13_same.f k x7 x8).bind fun t934 => (some (((strOfNums bt920.1).toList == (strOfNums bt930.1).toList) == t934))) else (some false)) else (some false))))))))) R) :
    ∀ (m j : Nat), m + j = n → Ev (fun k => galleylaw13_DeltaSame.l2 k x7 x8 (unlike j ++ List.replicate m 0) (n : Int) (j : Int)) R
  | 0, j, hm => by
    obtain rfl : j = n := by omega
    refine Ev.step (fun k => by rw [galleylaw13_DeltaSame.l2, if_neg (by omega), List.replicate_zero, List.append_nil]) ?_
    exact hend
  | m + 1, j, hm => by
    have hul : (unlike j).length = j := by unfold unlike; simp
    have hw1 : wrap64 ((j : Int) + 1) = ((j + 1 : Nat) : Int) := by unfold wrap64; omega
    have hv : (wrap64 (128 + (j : Int))) % 256 = 128 + (j : Int) := by unfold wrap64; omega
    have hset : (unlike j ++ List.replicate (m + 1) (0 : Int)).set ((j : Int)).toNat (128 + (j : Int)) = unlike (j + 1) ++ List.replicate m 0 := by
      rw [Int.toNat_natCast, List.set_append_right _ _ (by omega), hul, Nat.sub_self, List.replicate_succ, List.set_cons_zero]
      unfold unlike
      rw [List.range_succ, List.map_append, List.append_assoc]
      rfl
    refine Ev.step (fun k => by rw [galleylaw13_DeltaSame.l2, if_pos (by omega), if_pos (by omega), if_pos (by simp only [List.length_append, hul, List.length_replicate]; omega), hv, hset, hw1]) ?_
    exact same_l2 x7 x8 n hn hend m (j + 1) (by omega)

theorem deltaSame_law (n : Int) (a b : List S70) (hs : ∀ d ∈ [a, b], ∀ o ∈ d, o.f2.size ≤ 140737488355328) : Ev (fun k => galleylaw13_DeltaSame.f k n a b) true := by
  have hyes : Ev (fun k => galleylaw13_DeltaSame.j0 k n a b true) true := Ev.step (fun k => by rw [galleylaw13_DeltaSame.j0, if_pos rfl]) (Ev.now _)
  unfold galleylaw13_DeltaSame.f
  refine Ev.bind (a := true) (Ev.now _) ?_
  refine Ev.congr (fun k => by rw [if_pos rfl]) ?_
  by_cases h0 : n < 0
  · exact Ev.congr (fun k => by rw [if_pos h0]) hyes
  refine Ev.congr (fun k => by rw [if_neg h0]) ?_
  by_cases h1 : n > 120
  · exact Ev.congr (fun k => by rw [if_pos h1]) hyes
  refine Ev.congr (fun k => by rw [if_neg h1]) ?_
  obtain ⟨sh, hsh, hsh2⟩ := short_ev [] [a, b] (by simp) hs
  refine Ev.bind hsh ?_
  cases sh with
  | false => exact hyes
  | true =>
    obtain ⟨hx, hd⟩ := hsh2 rfl
    obtain ⟨p, ep, ⟨hp, hpf⟩, hpt⟩ := fit_ev (hd a (by simp)) (n := n) (by omega) (by omega)
    obtain ⟨q, eq, ⟨hq, hqf⟩, hqt⟩ := fit_ev (hd b (by simp)) (n := n) (by omega) (by omega)
    have len : ∀ {d : List S70}, canB d = true → d.length ≤ 9223372036854775807 := fun h => by have := can_len h; omega
    have hpl := can_len hp
    have hql := can_len hq
    refine Ev.step (fun k => by rw [galleylaw13_DeltaSame.j0, if_neg (by decide)]) ?_
    refine Ev.bind ep ?_
    refine Ev.bind eq ?_
    refine Ev.bind (own_ev hp) ?_
    refine Ev.bind (a := (p, 0)) (by rw [canon_can hp]; exact Ev.now _) ?_
    refine Ev.bind (own_ev hp) ?_
    refine Ev.bind (a := (chs 0 p, 0)) (by rw [changes_can hp]; exact Ev.now _) ?_
    refine Ev.bind (a := (p, 0)) (by rw [← hpf]; dsimp only; rw [of_changes hp]; exact Ev.now _) ?_
    refine Ev.congr (fun k => by rw [if_pos rfl, if_pos rfl, if_pos rfl]) ?_
    refine Ev.bind (same_self _ (len hp)) ?_
    refine Ev.congr (fun k => by rw [if_pos rfl]) ?_
    refine Ev.bind (same_self _ (len hp)) ?_
    refine Ev.congr (fun k => by rw [if_pos rfl]) ?_
    refine Ev.bind (own_ev hp) ?_
    refine Ev.bind (valid_ev _ (len hp)) ?_
    rw [hp]
    refine Ev.step (fun k => by rw [galleylaw13_DeltaSame.j1, if_neg (by decide)]) ?_
    refine Ev.bind (own_ev hp) ?_
    refine Ev.congr (fun k => by rw [if_pos (by omega), Option.bind_some]) ?_
    have hsz : ∀ o ∈ p ++ q, o.f2.size ≤ 1000000000 := by
      have one : ∀ {d : List S70}, canB d = true → ∀ o ∈ d, o.f2.size ≤ 1000000000 := by
        intro d h o ho
        have h1 := canB_small h o ho
        rcases opOk_cases (chainOk_opOk (canB_lens h).1 o ho) with ⟨k1, k2, k3⟩ | ⟨k1, k2, k3⟩
        · rw [k3]; exact Nat.zero_le _
        · unfold opw at h1
          rw [if_pos k1] at h1
          omega
      intro o ho
      rcases List.mem_append.1 ho with ho | ho
      · exact one hp o ho
      · exact one hq o ho
    refine same_l0 n p q (d := p ++ q) (by rw [List.length_append]; omega) hsz (fun hlow => ?_) (p ++ q) [] rfl (fun o ho => by cases ho)
    refine Ev.congr (fun k => by rw [if_pos (by omega), if_pos (by omega), Option.bind_some]) ?_
    obtain ⟨m, rfl⟩ : ∃ m : Nat, n = (m : Int) := ⟨n.toNat, by omega⟩
    have hm : m ≤ 120 := by omega
    have hul : (unlike m).length = m := by unfold unlike; simp
    rw [Int.toNat_natCast, List.length_replicate]
    refine same_l2 p q m hm ?_ m 0 (by omega)
    obtain ⟨t, ht1, ht2⟩ := same_ev p q (len hp)
    have hst := same_texts hm hp hq hpf hqf (fun o ho => hlow o (List.mem_append_left _ ho)) (fun o ho => hlow o (List.mem_append_right _ ho))
    refine Ev.bind (bytes_ev (by omega)) ?_
    refine Ev.bind (own_ev hp) ?_
    refine Ev.bind (a := (ap bytesOf p (unlike m), 0)) (by rw [apply_fit hp (by rw [hul]; exact hpf)]; exact Ev.now _) ?_
    refine Ev.bind (bytes_ev (by omega)) ?_
    refine Ev.bind (own_ev hq) ?_
    refine Ev.bind (a := (ap bytesOf q (unlike m), 0)) (by rw [apply_fit hq (by rw [hul]; exact hqf)]; exact Ev.now _) ?_
    refine Ev.congr (fun k => by rw [if_pos rfl, if_pos rfl]) ?_
    refine Ev.bind ht2 ?_
    dsimp only
    have : (((strOfNums (ap bytesOf p (unlike m))).toList == (strOfNums (ap bytesOf q (unlike m))).toList) == t) = true := by
      rw [beq_iff_eq, Bool.eq_iff_iff, beq_iff_eq, toList_inj, hst, ht1]
    rw [this]
    exact Ev.now _
end Go.Proofs.Ytidihnnkcmeaeaa.A
