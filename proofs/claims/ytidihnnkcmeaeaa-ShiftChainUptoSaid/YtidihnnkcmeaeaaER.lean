/- galleyref14.Over: what it answers, where the texts together are small. No condition but that. -/
import Derived.Test.YtidihnnkcmeaeaaR4
import Derived.Test.YtidihnnkcmeaeaaA7
import Derived.Test.YtidihnnkcmeaeaaO
import Derived.Test.YtidihnnkcmeaeaaECanon
namespace Go.Proofs.Ytidihnnkcmeaeaa.A
open Go.RowKit Go.Proofs.YtidihnnkcmeaeaaW.PrintWords Go.Proofs.YtidihnnkcmeaeaaW.PrintLast Go.Proofs.YtidihnnkcmeaeaaW.PrintMore
set_option linter.unusedVariables false
set_option linter.unusedSimpArgs false
def galleyref14_Over.f (l0 l1 : List S70) (a2 : Bool) : Option (List S70 × Int) :=
 if txts l0 ≤ 300000000 ∧ txts l1 ≤ 300000000 then shift_Over.f l0 l1 a2 else none
theorem set4_x {w : World} {gx gy : Nat} {a b c d : Value} (bx : w.heap[gx]? = some (.cells #[a, b] 113 (0, 0))) (hy : w.heap[gy]? = some (.cells #[c, d] 113 (0, 0))) (hne : gx ≠ gy) (u0 u1 u2 u3 : Value) :
  ((((w.setCell ⟨gx, 0, none⟩ u0).setCell ⟨gx, 1, none⟩ u1).setCell ⟨gy, 0, none⟩ u2).setCell ⟨gy, 1, none⟩ u3).heap[gx]? = some (.cells #[u0, u1] 113 (0, 0)) :=
 blk_far (blk_far (blk_put (blk_put bx 0 u0 rfl) 1 u1 rfl) (p := ⟨gy, 0, none⟩) hne u2) (p := ⟨gy, 1, none⟩) hne u3
theorem set4_y {w : World} {gx gy : Nat} {a b c d : Value} (bx : w.heap[gx]? = some (.cells #[a, b] 113 (0, 0))) (hy : w.heap[gy]? = some (.cells #[c, d] 113 (0, 0))) (hne : gx ≠ gy) (u0 u1 u2 u3 : Value) :
  ((((w.setCell ⟨gx, 0, none⟩ u0).setCell ⟨gx, 1, none⟩ u1).setCell ⟨gy, 0, none⟩ u2).setCell ⟨gy, 1, none⟩ u3).heap[gy]? = some (.cells #[u2, u3] 113 (0, 0)) :=
 blk_put (blk_put (blk_far (blk_far hy (p := ⟨gx, 0, none⟩) (fun e => hne e.symm) u0) (p := ⟨gx, 1, none⟩) (fun e => hne e.symm) u1) 0 u2 rfl) 1 u3 rfl
theorem set4_row {α : Type} {K : Kd α} {e base : Nat} {ok : Nat → Prop} {v : Value} {xs : List α} {w : World} {gx gy : Nat} {a b c d : Value} (h : K.R e w base ok v xs) (bx : w.heap[gx]? = some (.cells #[a, b] 113 (0, 0))) (hy : w.heap[gy]? = some (.cells #[c, d] 113 (0, 0))) (hne : gx ≠ gy) (ht : ∀ q, q ∈ e :: K.E → q ≠ 113) (u0 u1 u2 u3 : Value) :
  K.R e ((((w.setCell ⟨gx, 0, none⟩ u0).setCell ⟨gx, 1, none⟩ u1).setCell ⟨gy, 0, none⟩ u2).setCell ⟨gy, 1, none⟩ u3) base ok v xs :=
 Kd.R_set (Kd.R_set (Kd.R_set (Kd.R_set h bx ht 0 u0) (blk_put bx 0 u0 rfl) ht 1 u1) (blk_far (blk_far hy (p := ⟨gx, 0, none⟩) (fun e => hne e.symm) u0) (p := ⟨gx, 1, none⟩) (fun e => hne e.symm) u1) ht 0 u2) (blk_put (blk_far (blk_far hy (p := ⟨gx, 0, none⟩) (fun e => hne e.symm) u0) (p := ⟨gx, 1, none⟩) (fun e => hne e.symm) u1) 0 u2 rfl) ht 1 u3
theorem set4_below {w : World} {gx gy B : Nat} (hx : B ≤ gx) (hy : B ≤ gy) (hB : B ≤ w.heap.size) (u0 u1 u2 u3 : Value) :
  Below B w ((((w.setCell ⟨gx, 0, none⟩ u0).setCell ⟨gx, 1, none⟩ u1).setCell ⟨gy, 0, none⟩ u2).setCell ⟨gy, 1, none⟩ u3) :=
 Kp.below (P := fun k => k = gx ∨ k = gy) (((((Kp.refl _ w).setCell (p := ⟨gx, 0, none⟩) (.inl rfl) u0).setCell (p := ⟨gx, 1, none⟩) (.inl rfl) u1).setCell (p := ⟨gy, 0, none⟩) (.inr rfl) u2).setCell (p := ⟨gy, 1, none⟩) (.inr rfl) u3) (fun i h => by rcases h with rfl | rfl <;> assumption) hB
theorem at_S' {w : World} {ad : Addr} {n : Nat} {X : List ByteArray} (h : Kd.C Kd.string w (some ad) n X) (i : Int) (h0 : 0 ≤ i) (h1 : i < n) : w.cell? (ad.add i.toNat) = some (.string (rdS X i)) := by
 obtain ⟨ad', e, h2⟩ := at_S h i h0 h1
 injection e with e
 rw [e]; exact h2
theorem at_B' {w : World} {ad : Addr} {n : Nat} {X : List Bool} (h : Kd.C Kd.bool w (some ad) n X) (i : Int) (h0 : 0 ≤ i) (h1 : i < n) : w.cell? (ad.add i.toNat) = some (.bool (rdB X i)) := by
 obtain ⟨ad', e, h2⟩ := at_B h i h0 h1
 injection e with e
 rw [e]; exact h2
set_option maxHeartbeats 8000000 in
set_option maxRecDepth 100000 in
theorem galleyref14_Over.calls (A0 : Option Addr) (c0 : Nat) (l0 : List (S70)) (A1 : Option Addr) (c1 : Nat) (l1 : List (S70)) (a2 : Bool) (r1 : List S70) (r2 : Int) (w : World) (hr0 : Kd.C k70 w A0 l0.length l0) (hc0 : l0.length ≤ c0) (hr1 : Kd.C k70 w A1 l1.length l1) (hc1 : l1.length ≤ c1) (h : galleyref14_Over.f l0 l1 a2 = some (r1, r2)) :
  Calls Try.prog 57 #[.slice A0 l0.length c0, .slice A1 l1.length c1, .bool a2] w fun e w' => ∃ v0_ : Value, e = .returned (.tuple #[v0_, .int .i64 r2]) ∧ Kd.R k70 70 w' w.heap.size (fun _ => True) v0_ r1 ∧ Below w.heap.size w w' := by
 have HR0 := Aside0.mk hr0
 have HC0 := Aside0.mk hc0
 have HR1 := Aside0.mk hr1
 have HC1 := Aside0.mk hc1
 have hlen0 : (l0.length : Int) ≤ 9223372036854775807 := by have := Kd.C_max hr0; omega
 have hlen1 : (l1.length : Int) ≤ 9223372036854775807 := by have := Kd.C_max hr1; omega
 unfold galleyref14_Over.f at h
 by_cases ht : txts l0 ≤ 300000000 ∧ txts l1 ≤ 300000000
 rotate_left
 ·
  rw [if_neg ht] at h; cases h
 rw [if_pos ht] at h
 obtain ⟨kv0, hv0⟩ := (valid14_ev l0 (by omega) ht.1).rounds
 obtain ⟨kv1, hv1⟩ := (valid14_ev l1 (by omega) ht.2).rounds
 have HV0 := Aside0.mk hv0
 have HV1 := Aside0.mk hv1
 unfold shift_Over.f at h
 clear hr0 hc0 hr1 hc1 hv0 hv1
 have one : ∀ (k : Nat) (A : Option Addr) (c : Nat) (l : List S70) (r : Bool) (W : World), Kd.C k70 W A l.length l → l.length ≤ c → galleyref14_Valid.f k l = some (canB l) → canB l = r → Calls Try.prog 88 #[.slice A l.length c] W fun e w' => e = .returned (.bool r) ∧ Below W.heap.size W w' := by
  intro k A c l r W h1 h2 h3 h4
  exact galleyref14_Valid.calls k A c l r W h1 h2 (by rw [← h4]; exact h3)
 cases hca : canB l0 with
 | false =>
  rw [hca, Bool.false_and, if_neg (by decide)] at h
  obtain ⟨rfl, rfl⟩ : r1 = [] ∧ r2 = 130 := by simp only [Option.some.injEq, Prod.mk.injEq] at h; exact ⟨h.1.symm, h.2.symm⟩
  have HCA := Aside0.mk hca
  clear h hca
  go_enter Try.func57, Try.ntmps57
  go_wp2_with (go_at_call 88; (with_reducible refine (one kv0 A0 c0 l0 false _ ?s1 HC0.out HV0.out HCA.out).mono ?_); (case s1 => exact HR0.out); rintro e w1 ⟨rfl, hb1⟩; have HB1 := Aside0.mk hb1; clear hb1)
  go_ret2
  exact ⟨_, rfl, Kd.R_nil _ _ _ _ _, HB1.out⟩
 | true =>
  rw [hca, Bool.true_and] at h
  have HCA := Aside0.mk hca
  cases hcb : canB l1 with
  | false =>
   rw [hcb, if_neg (by decide)] at h
   obtain ⟨rfl, rfl⟩ : r1 = [] ∧ r2 = 130 := by simp only [Option.some.injEq, Prod.mk.injEq] at h; exact ⟨h.1.symm, h.2.symm⟩
   have HCB := Aside0.mk hcb
   clear h hcb hca
   go_enter Try.func57, Try.ntmps57
   go_wp2_with (first
    | (go_at_call 88; (with_reducible refine (one kv0 A0 c0 l0 true _ ?s1 HC0.out HV0.out HCA.out).mono ?_); (case s1 => exact HR0.out); rintro e w1 ⟨rfl, hb1⟩; have HB1 := Aside0.mk hb1; clear hb1)
    | (go_at_call 88; (with_reducible refine (one kv1 A1 c1 l1 false _ ?s1 HC1.out HV1.out HCB.out).mono ?_); (case s1 => exact (Kd.C_below HR1.out HB1.out)); rintro e w2 ⟨rfl, hb2⟩; have HB2 := Aside0.mk (below_step HB1.out hb2); clear hb2))
   go_ret2
   exact ⟨_, rfl, Kd.R_nil _ _ _ _ _, HB2.out⟩
  | true =>
   rw [hcb, if_pos rfl] at h
   have HCB := Aside0.mk hcb
   obtain ⟨a1, a2', a3⟩ := canB_lens hca
   obtain ⟨b1, b2, b3⟩ := canB_lens hcb
   obtain ⟨kl0, hl0⟩ := (lens14_ev (d := l0) (by omega) (chainOk_opOk a1) (by omega) (by omega)).rounds
   obtain ⟨kl1, hl1⟩ := (lens14_ev (d := l1) (by omega) (chainOk_opOk b1) (by omega) (by omega)).rounds
   have HL0 := Aside0.mk hl0
   have HL1 := Aside0.mk hl1
   clear hl0 hl1
   by_cases hf : fromOf l0 = fromOf l1
   rotate_left
   ·
    rw [if_neg hf] at h
    obtain ⟨rfl, rfl⟩ : r1 = [] ∧ r2 = 131 := by simp only [Option.some.injEq, Prod.mk.injEq] at h; exact ⟨h.1.symm, h.2.symm⟩
    have hfb : (fromOf l0 != fromOf l1) = true := bne_iff_ne.mpr hf
    have hfc : (fromOf l0 == fromOf l1) = false := beq_eq_false_iff_ne.mpr hf
    clear h hcb hca hf
    go_enter Try.func57, Try.ntmps57
    go_wp2_with (first
     | (go_at_call 88; (with_reducible refine (one kv0 A0 c0 l0 true _ ?s1 HC0.out HV0.out HCA.out).mono ?_); (case s1 => exact HR0.out); rintro e w1 ⟨rfl, hb1⟩; have HB1 := Aside0.mk hb1; clear hb1)
     | (go_at_call 88; (with_reducible refine (one kv1 A1 c1 l1 true _ ?s1 HC1.out HV1.out HCB.out).mono ?_); (case s1 => exact (Kd.C_below HR1.out HB1.out)); rintro e w2 ⟨rfl, hb2⟩; have HB2 := Aside0.mk (below_step HB1.out hb2); clear hb2)
     | (go_at_call 89; (with_reducible refine (galleyref14_lens.calls kl0 A0 c0 l0 _ _ _ ?s1 HC0.out HL0.out).mono ?_); (case s1 => exact (Kd.C_below HR0.out HB2.out)); rintro e w' ⟨rfl, ⟨nd, rfl⟩⟩)
     | (go_at_call 89; (with_reducible refine (galleyref14_lens.calls kl1 A1 c1 l1 _ _ _ ?s1 HC1.out HL1.out).mono ?_); (case s1 => exact (Kd.C_drewN (Kd.C_below HR1.out HB2.out) _)); rintro e w' ⟨rfl, ⟨nd, rfl⟩⟩))
    go_ret2
    exact ⟨_, rfl, Kd.R_nil _ _ _ _ _, by repeat (first | exact HB2.out | refine pw_below_drewN ?_ _)⟩
   ·
    rw [if_pos hf] at h
    obtain ⟨kr0, hrd0⟩ := (read_ev hca).rounds
    obtain ⟨kr1, hrd1⟩ := (read_ev hcb).rounds
    have HRD0 := Aside0.mk hrd0
    have HRD1 := Aside0.mk hrd1
    have HF := Aside0.mk hf
    have HH := Aside0.mk (over_fin hca hcb hf h)
    have oka := chainOk_opOk a1
    have okb := chainOk_opOk b1
    obtain ⟨n, hn⟩ : ∃ n : Nat, fromOf l0 = (n : Int) := ⟨(fromOf l0).toNat, by have := fromOf_nonneg (d := l0) (fun o ho => kindOk_posN (okc a1 o ho)); omega⟩
    have hn1 : fromOf l1 = (n : Int) := by omega
    have LPX := Aside0.mk (show (PL l0).length = n + 1 by have := PL_len oka; omega)
    have LPY := Aside0.mk (show (PL l1).length = n + 1 by have := PL_len okb; omega)
    have LDX := Aside0.mk (show (DL l0).length = n by have := DL_len oka; omega)
    have LDY := Aside0.mk (show (DL l1).length = n by have := DL_len okb; omega)
    have SZX := Aside0.mk (show szs (PL l0) ≤ 268435456 by rw [szs_PL oka]; have := txts_le oka; omega)
    have SZY := Aside0.mk (show szs (PL l1) ≤ 268435456 by rw [szs_PL okb]; have := txts_le okb; omega)
    have hnb : n ≤ 268435456 := by omega
    have HL0 := Aside0.mk (show galleyref14_lens.f kl0 l0 = some ((n : Int), toOf l0) by rw [← hn]; exact HL0.out)
    have HL1 := Aside0.mk (show galleyref14_lens.f kl1 l1 = some ((n : Int), toOf l1) by rw [← hn1]; exact HL1.out)
    have hfb : ((n : Int) != (n : Int)) = false := by simp
    clear hrd0 hrd1 hf h hca hcb hn hn1 oka okb a1 a2' a3 b1 b2 b3
    go_enter Try.func57, Try.ntmps57
    go_wp2_with (first
     | (go_at_call 88; (with_reducible refine (one kv0 A0 c0 l0 true _ ?s1 HC0.out HV0.out HCA.out).mono ?_); (case s1 => exact HR0.out); rintro e w1 ⟨rfl, hb1⟩; have HB1 := Aside0.mk hb1; clear hb1)
     | (go_at_call 88; (with_reducible refine (one kv1 A1 c1 l1 true _ ?s1 HC1.out HV1.out HCB.out).mono ?_); (case s1 => exact (Kd.C_below HR1.out HB1.out)); rintro e w2 ⟨rfl, hb2⟩; have HB2 := Aside0.mk (below_step HB1.out hb2); clear hb2)
     | (go_at_call 89; (with_reducible refine (galleyref14_lens.calls kl0 A0 c0 l0 _ _ _ ?s1 HC0.out HL0.out).mono ?_); (case s1 => exact (Kd.C_below HR0.out HB2.out)); rintro e w' ⟨rfl, ⟨nd0, rfl⟩⟩; have HB3 := Aside0.mk (pw_below_drewN HB2.out nd0))
     | (go_at_call 89; (with_reducible refine (galleyref14_lens.calls kl1 A1 c1 l1 _ _ _ ?s1 HC1.out HL1.out).mono ?_); (case s1 => exact (Kd.C_below HR1.out HB3.out)); rintro e w' ⟨rfl, ⟨nd1, rfl⟩⟩; have HB4 := Aside0.mk (pw_below_drewN HB2.out (nd0 + nd1)))
     | (go_at_call 92; (with_reducible refine (galleyref14_Read.calls kr0 A0 c0 l0 _ _ _ ?s1 HC0.out HRD0.out).mono ?_); (case s1 => exact (Kd.C_below HR0.out HB4.out)); rintro e w5 ⟨vx, vdx, rfl, hx, hdx, hb5⟩; have HX := Aside0.mk hx; have HDX := Aside0.mk hdx; have HB5 := Aside0.mk (below_step HB4.out hb5); clear hx hdx hb5)
     | (go_at_call 92; (with_reducible refine (galleyref14_Read.calls kr1 A1 c1 l1 _ _ _ ?s1 HC1.out HRD1.out).mono ?_); (case s1 => exact (Kd.C_below HR1.out HB5.out)); rintro e w6 ⟨vy, vdy, rfl, hy, hdy, hb6⟩; have HY := Aside0.mk (Kd.R_mono (Kd.R_bound hy) (ok' := fun k => k < w6.heap.size) (fun k hk => hk.2.2.1)); have HDY := Aside0.mk (Kd.R_mono (Kd.R_bound hdy) (ok' := fun k => k < w6.heap.size) (fun k hk => hk.2.2.1)); have HX6 := Aside0.mk (Kd.R_mono (Kd.R_bound (Kd.R_below HX.out hb6)) (ok' := fun k => k < w6.heap.size) (fun k hk => hk.2.2.1)); have HDX6 := Aside0.mk (Kd.R_mono (Kd.R_bound (Kd.R_below HDX.out hb6)) (ok' := fun k => k < w6.heap.size) (fun k hk => hk.2.2.1)); have HB6 := Aside0.mk (below_step HB5.out hb6); clear hy hdy hb6; obtain ⟨AX, cX, eX⟩ := Kd.R_slice HX6.out; subst eX; obtain ⟨AY, cY, eY⟩ := Kd.R_slice HY.out; subst eY; obtain ⟨EX, dX, fX⟩ := Kd.R_slice HDX6.out; subst fX; obtain ⟨EY, dY, fY⟩ := Kd.R_slice HDY.out; subst fY)
     | ((with_reducible refine gate_dst (N := 12) rfl ?_); refine box_event ?hg (N := 12) ?hd (cs := #[.slice none 0 0, .slice none 0 0]) (t := 113) ?hr ?_; (case hd => rfl); (case hg => rfl); (case hr => first | (go_simp; done) | (go_simp; rfl)); intro gx hgx w7 hbx hb7; have BX7 := Aside0.mk hbx; have HGX := Aside0.mk hgx; have HB7 := Aside0.mk (below_step HB6.out hb7); have RX7 := Aside0.mk (Kd.R_below HX6.out hb7); have RY7 := Aside0.mk (Kd.R_below HY.out hb7); have RDX7 := Aside0.mk (Kd.R_below HDX6.out hb7); have RDY7 := Aside0.mk (Kd.R_below HDY.out hb7); have S7 := Aside0.mk hb7.size; clear hgx hbx hb7)
     | ((with_reducible refine gate_dst (N := 13) rfl ?_); refine box_event ?hg (N := 13) ?hd (cs := #[.slice none 0 0, .slice none 0 0]) (t := 113) ?hr ?_; (case hd => rfl); (case hg => rfl); (case hr => first | (go_simp; done) | (go_simp; rfl)); intro gy hgy w8 hby hb8; have BY8 := Aside0.mk hby; have HGY := Aside0.mk hgy; have BX8 := Aside0.mk (blk_below BX7.out hb8); have HB8 := Aside0.mk (below_step HB7.out hb8); have RX8 := Aside0.mk (Kd.R_below RX7.out hb8); have RY8 := Aside0.mk (Kd.R_below RY7.out hb8); have RDX8 := Aside0.mk (Kd.R_below RDX7.out hb8); have RDY8 := Aside0.mk (Kd.R_below RDY7.out hb8); have S8 := Aside0.mk hb8.size; have HXY := Aside0.mk (show gx ≠ gy from fun e => by have := blk_lt BX7.out; rw [e, HGY.out] at this; exact absurd this (Nat.lt_irrefl _)); clear hgy hby hb8; have x0 : w8.cell? ⟨gx, 0, none⟩ = some (.slice none 0 0) := (blk_cell BX8.out 0).trans rfl; have x1 : w8.cell? ⟨gx, 1, none⟩ = some (.slice none 0 0) := (blk_cell BX8.out 1).trans rfl; have y0 : w8.cell? ⟨gy, 0, none⟩ = some (.slice none 0 0) := (blk_cell BY8.out 0).trans rfl; have y1 : w8.cell? ⟨gy, 1, none⟩ = some (.slice none 0 0) := (blk_cell BY8.out 1).trans rfl; have hxy : ¬ gx = gy := HXY.out; have hyx : ¬ gy = gx := fun e => HXY.out e.symm; have fx0 := blk_frozen BX8.out 0; have fx1 := blk_frozen BX8.out 1; have fy0 := blk_frozen BY8.out 0; have fy1 := blk_frozen BY8.out 1)
     | ((with_reducible refine gate_dst (N := 14) rfl ?_); refine box_event ?hg (N := 14) ?hd (cs := #[.slice none 0 0, .string ⟨#[]⟩, .int .i64 0]) (t := 116) ?hr ?_; (case hd => rfl); (case hg => rfl); (case hr => first | (go_simp; done) | (go_simp; rfl)); intro gb hgb w10 hbb hb10; have HGB := Aside0.mk hgb; have BB := Aside0.mk hbb; have HBX := Aside0.mk hb10; clear hgb hbb hb10))
    have hgx := HGX.out
    have hgy := HGY.out
    have hgb := HGB.out
    have hs8 : ((((w8.setCell ⟨gx, 0, none⟩ (.slice AX (PL l0).length cX)).setCell ⟨gx, 1, none⟩ (.slice EX (DL l0).length dX)).setCell ⟨gy, 0, none⟩ (.slice AY (PL l1).length cY)).setCell ⟨gy, 1, none⟩ (.slice EY (DL l1).length dY)).heap.size = w8.heap.size := by simp [World.setCell]
    rw [hs8] at hgb
    have s7 := S7.out
    have s8 := S8.out
    have s6 := HB6.out.size
    have l7 := blk_lt BX7.out
    have l8 := blk_lt BY8.out
    have BX10 := Aside0.mk (blk_below (set4_x BX8.out BY8.out HXY.out _ _ _ _) HBX.out)
    have BY10 := Aside0.mk (blk_below (set4_y BX8.out BY8.out HXY.out _ _ _ _) HBX.out)
    have RX10 := Aside0.mk (Kd.R_below (set4_row RX8.out BX8.out BY8.out HXY.out ne9_113 _ _ _ _) HBX.out)
    have RY10 := Aside0.mk (Kd.R_below (set4_row RY8.out BX8.out BY8.out HXY.out ne9_113 _ _ _ _) HBX.out)
    have RDX10 := Aside0.mk (Kd.R_below (set4_row RDX8.out BX8.out BY8.out HXY.out ne4_113 _ _ _ _) HBX.out)
    have RDY10 := Aside0.mk (Kd.R_below (set4_row RDY8.out BX8.out BY8.out HXY.out ne4_113 _ _ _ _) HBX.out)
    have HB10 := Aside0.mk (below_step (HB8.out.trans (set4_below (w := w8) (gx := gx) (gy := gy) (B := w.heap.size) (by omega) (by omega) (by omega) _ _ _ _)) HBX.out)
    have s10 := HBX.out.size
    rw [hs8] at s10
    have HS10 := Aside0.mk (show gx < w10.heap.size ∧ gy < w10.heap.size ∧ gx ≠ gb ∧ gy ≠ gb ∧ w6.heap.size ≤ gb ∧ w6.heap.size ≤ w10.heap.size ∧ w.heap.size ≤ w10.heap.size ∧ w.heap.size ≤ gb by refine ⟨?_, ?_, ?_, ?_, ?_, ?_, ?_, ?_⟩ <;> omega)
    clear hgx hgy hgb hs8 s7 s8 s6 l7 l8 s10 x0 x1 y0 y1 fx0 fx1 fy0 fy1 hxy hyx
    obtain ⟨adx, hadx, _⟩ := at_S (Kd.R_reads' RX10.out).2.2 0 (by omega) (by have := LPX.out; omega)
    subst hadx
    obtain ⟨ady, hady, _⟩ := at_S (Kd.R_reads' RY10.out).2.2 0 (by omega) (by have := LPY.out; omega)
    subst hady
    obtain ⟨P, hPd⟩ : ∃ P : Nat → Prop, P = fun k => w10.heap.size ≤ k ∨ k = gb := ⟨_, rfl⟩
    have HPX := Aside0.mk (show ∀ W, Kp P w10 W → W.heap[gx]? = some (.cells #[.slice (some adx) (PL l0).length cX, .slice EX (DL l0).length dX] 113 (0, 0)) from fun W h => h.blk BX10.out (by rw [hPd]; have := HS10.out; omega))
    have HPY := Aside0.mk (show ∀ W, Kp P w10 W → W.heap[gy]? = some (.cells #[.slice (some ady) (PL l1).length cY, .slice EY (DL l1).length dY] 113 (0, 0)) from fun W h => h.blk BY10.out (by rw [hPd]; have := HS10.out; omega))
    have hnot : ∀ k, k < w6.heap.size → ¬ P k := by rw [hPd]; have := HS10.out; intro k hk; omega
    have HQX := Aside0.mk (show ∀ W, Kp P w10 W → Kd.C Kd.string W (some adx) (PL l0).length (PL l0) from fun W h => (Kd.R_reads' (h.row RX10.out hnot)).2.2)
    have HQY := Aside0.mk (show ∀ W, Kp P w10 W → Kd.C Kd.string W (some ady) (PL l1).length (PL l1) from fun W h => (Kd.R_reads' (h.row RY10.out hnot)).2.2)
    have HEX := Aside0.mk (show ∀ W, Kp P w10 W → Kd.C Kd.bool W EX (DL l0).length (DL l0) from fun W h => (Kd.R_reads' (h.row RDX10.out hnot)).2.2)
    have HEY := Aside0.mk (show ∀ W, Kp P w10 W → Kd.C Kd.bool W EY (DL l1).length (DL l1) from fun W h => (Kd.R_reads' (h.row RDY10.out hnot)).2.2)
    have HPF := Aside0.mk (show ∀ W, Kp P w10 W → ∀ k, W.heap.size ≤ k → P k from fun W h k hk => by rw [hPd]; exact .inl (Nat.le_trans h.size hk))
    have HPB := Aside0.mk (show ∀ k, P k → w.heap.size ≤ k from fun k hk => by rw [hPd] at hk; have := HS10.out; omega)
    have HBS := Aside0.mk (show ∀ W, Kp P w10 W → w.heap.size ≤ W.heap.size from fun W h => Nat.le_trans HS10.out.2.2.2.2.2.2.1 h.size)
    have HI0 := Aside0.mk (show IsR w10 w.heap.size P gb (rbOf Bs.new) from ⟨by rw [hPd]; exact .inr rfl, _, BB.out, Kd.R_nil _ _ _ _ _⟩)
    clear hPd hnot
    go_loopw [15, 16] (fun vt vp wr => ∃ (p : Nat) (tt : Int) (b : Bs) (m : Int), p ≤ n + 1 ∧ vt = .int .i64 tt ∧ vp = .int .i64 p ∧ Aside0 (Kp P w10 wr) ∧ Aside0 (IsR wr w.heap.size P gb (rbOf b)) ∧ Aside0 (BG b m) ∧ Aside0 (m + szs ((PL l0).drop p) + szs ((PL l1).drop p) + ((n : Int) + 1 - p) ≤ 900000000 ∧ 0 ≤ tt ∧ tt ≤ m) ∧ Aside0 ((roAt a2 l0 l1 n p).foldl Bs.step b = (roAll a2 l0 l1).foldl Bs.step Bs.new) ∧ Aside0 (tt + toOf (roAt a2 l0 l1 n p) = toOf (roAll a2 l0 l1))) (fun _ vp _ => n + 1 - (intOf vp).toNat)
    case atStart => exact ⟨0, 0, Bs.new, 0, Nat.zero_le _, rfl, rfl, ⟨Kp.refl _ _⟩, HI0, ⟨BG.new⟩, ⟨by have := SZX.out; have := SZY.out; simp only [List.drop_zero]; omega, Int.le_refl 0, Int.le_refl 0⟩, ⟨by rw [roAt_zero]⟩, ⟨by rw [roAt_zero]; omega⟩⟩
    case round =>
     clear HI0
     obtain ⟨p, tt, b, m, hp, rfl, rfl, HK, HI, HG, HN, HFO, HTO⟩ := hrel
     by_cases hle : p ≤ n
     ·
      have hle' : (p : Int) ≤ (n : Int) := by omega
      have hlb : decide ((p : Int) ≤ (n : Int)) = true := decide_eq_true hle'
      have hp0 : (0 : Int) ≤ (p : Int) := by omega
      have hpx : (p : Int) < ((PL l0).length : Int) := by have := LPX.out; omega
      have hpy : (p : Int) < ((PL l1).length : Int) := by have := LPY.out; omega
      have hpb : (p : Int) ≤ 268435456 := by omega
      obtain ⟨sx, hsx⟩ : ∃ s, s = rdS (PL l0) (p : Int) := ⟨_, rfl⟩
      obtain ⟨sy, hsy⟩ : ∃ s, s = rdS (PL l1) (p : Int) := ⟨_, rfl⟩
      have hdx := szs_drop (X := PL l0) (p := p) (by have := LPX.out; omega)
      have hdy := szs_drop (X := PL l1) (p := p) (by have := LPY.out; omega)
      have hnx := szs_nonneg ((PL l0).drop (p + 1))
      have hny := szs_nonneg ((PL l1).drop (p + 1))
      rw [← hsx] at hdx
      rw [← hsy] at hdy
      have hN := HN.out
      rw [hdx, hdy] at hN
      have ht0 : 0 ≤ tt := hN.2.1
      have ht1 : tt ≤ 900000000 := by omega
      have hsx1 : (sx.size : Int) ≤ 900000000 := by omega
      have hsy1 : (sy.size : Int) ≤ 900000000 := by omega
      have HM := Aside0.mk hN
      have HNX := Aside0.mk (And.intro hnx hny)
      have FX := Aside0.mk (show ∀ W, Kp P w10 W → W.cell? ⟨gx, 0, none⟩ = some (.slice (some adx) (PL l0).length cX) ∧ W.cell? ⟨gy, 0, none⟩ = some (.slice (some ady) (PL l1).length cY) ∧ W.cell? (adx.add p) = some (.string sx) ∧ W.cell? (ady.add p) = some (.string sy) from fun W h => ⟨(blk_cell (HPX.out W h) 0).trans rfl, (blk_cell (HPY.out W h) 0).trans rfl, by have := at_S' (HQX.out W h) (p : Int) hp0 hpx; rw [Int.toNat_natCast, ← hsx] at this; exact this, by have := at_S' (HQY.out W h) (p : Int) hp0 hpy; rw [Int.toNat_natCast, ← hsy] at this; exact this⟩)
      have FE := Aside0.mk (show ∀ W, Kp P w10 W → W.cell? ⟨gx, 1, none⟩ = some (.slice EX (DL l0).length dX) ∧ W.cell? ⟨gy, 1, none⟩ = some (.slice EY (DL l1).length dY) from fun W h => ⟨(blk_cell (HPX.out W h) 1).trans rfl, (blk_cell (HPY.out W h) 1).trans rfl⟩)
      have HSX := Aside0.mk hsx
      have HSY := Aside0.mk hsy
      have hmm : m ≤ 900000000 := by omega
      have HMM := Aside0.mk hmm
      have HSUM := Aside0.mk (show wrap64 (tt + wrap64 ((sx.size : Int) + (sy.size : Int))) = tt + ((sx.size : Int) + (sy.size : Int)) by unfold wrap64; omega)
      clear hdx hdy hnx hny hN hsx hsy hmm
      obtain ⟨x0, y0, xs0, ys0⟩ := FX.out _ HK.out
      by_cases hend : p = n
      ·
       have hpe : ((p : Int) == (n : Int)) = true := beq_iff_eq.mpr (by omega)
       have HEN := Aside0.mk hend
       clear hend
       cases a2 with
       | true =>
        go_wp2_with (first | (go_at_call 93; refine (rput_calls _ w.heap.size gb P (rbOf b) sy HI.out (by have := (HG.out).bi.put_le; have := HMM.out; have := HM.out; have := HNX.out; show b.put.size + sy.size ≤ _; omega)).mono ?_; rintro e wa ⟨rfl, hba, hka⟩; rw [rbOf_put] at hba; have HIa := Aside0.mk hba; have HKa := Aside0.mk (HK.out.trans hka (fun _ h _ => h)); clear hba hka; obtain ⟨x0a, y0a, xsa, ysa⟩ := FX.out _ HKa.out) | (go_at_call 94; refine (rkeep_calls _ w.heap.size gb P (rbOf (b.onPut sy)) (sx.size : Int) HIa.out (HBS.out _ HKa.out) (HPF.out _ HKa.out) (by have := (HG.out.put sy).bi.len; have := HMM.out; have := HM.out; have := HNX.out; show (b.onPut sy).out.length ≤ _; omega) ((HG.out.put sy).f1 (by have := HMM.out; have := HM.out; have := HNX.out; omega)) (by have := (HG.out.put sy).bi.drop_le; have := HMM.out; have := HM.out; have := HNX.out; show (b.onPut sy).drop ≤ _; omega) (by have := HMM.out; have := HM.out; have := HNX.out; omega) (by omega)).mono ?_; rintro e wb ⟨rfl, hbb, hkb⟩; rw [rbOf_keep (HG.out.put sy).bk.bw] at hbb; have HIb := Aside0.mk hbb; have HKb := Aside0.mk (HKa.out.trans hkb (fun _ h _ => h)); clear hbb hkb; obtain ⟨x0b, y0b, xsb, ysb⟩ := FX.out _ HKb.out))
        have HG2 := Aside0.mk (show BG ((b.onPut sy).onKeep (sx.size : Int)) (m + (sx.size : Int) + (sy.size : Int)) from HG.out.place (first := true) (s := sx) (t := sy))
        refine start_ (n := 16) (S := fun w' => w'.cell? ⟨gx, 0, none⟩ = some (.slice (some adx) (PL l0).length cX) ∧ w'.cell? ⟨gy, 0, none⟩ = some (.slice (some ady) (PL l1).length cY) ∧ w'.cell? (adx.add p) = some (.string sx) ∧ w'.cell? (ady.add p) = some (.string sy)) (ds := []) #[false, false, false, false, false, false, false, false, false, false, false, false, false, false, false, false] (by kernel_rfl) rfl rfl ⟨(FX.out _ HKb.out.drew).1, (FX.out _ HKb.out.drew).2.1, (FX.out _ HKb.out.drew).2.2.1, (FX.out _ HKb.out.drew).2.2.2⟩ (fun hHeld => ?_)
        refine pure_ (i := 0) (N := some 74) (v := ?_) (a' := ?_) #[true, false, false, false, false, false, false, false, false, false, false, false, false, false, false, false] rfl rfl (by kernel_rfl) (fun _ _ _ h => h) (Or.inl ⟨by rfl, ?_⟩) ?_ ?_
        rotate_left
        ·
         intro w'
         go_simp
         with_reducible rfl
        rotate_left
        ·
         simp only [Act.put, List.setIfInBounds_toArray, List.set_cons_zero, List.set_cons_succ, i64_w, i32_w]
         rfl
        refine pure_ (i := 1) (N := some 75) (v := ?_) (a' := ?_) #[true, true, false, false, false, false, false, false, false, false, false, false, false, false, false, false] rfl rfl (by kernel_rfl) (fun _ _ _ h => h) (Or.inl ⟨by rfl, ?_⟩) ?_ ?_
        rotate_left
        ·
         intro w'
         go_simp
         with_reducible rfl
        rotate_left
        ·
         simp only [Act.put, List.setIfInBounds_toArray, List.set_cons_zero, List.set_cons_succ, i64_w, i32_w]
         rfl
        refine pure_ (i := 3) (N := some 77) (v := ?_) (a' := ?_) #[true, true, false, true, false, false, false, false, false, false, false, false, false, false, false, false] rfl rfl (by kernel_rfl) (fun _ _ _ h => h) (Or.inl ⟨by rfl, ?_⟩) ?_ ?_
        rotate_left
        ·
         intro w'
         go_simp
         with_reducible rfl
        rotate_left
        ·
         simp only [Act.put, List.setIfInBounds_toArray, List.set_cons_zero, List.set_cons_succ, i64_w, i32_w]
         rfl
        refine pure_ (i := 7) (N := some 81) (v := ?_) (a' := ?_) #[true, true, false, true, false, false, false, true, false, false, false, false, false, false, false, false] rfl rfl (by kernel_rfl) (fun _ _ _ h => h) (Or.inl ⟨by rfl, ?_⟩) ?_ ?_
        rotate_left
        ·
         intro w'
         go_simp
         with_reducible rfl
        rotate_left
        ·
         simp only [Act.put, List.setIfInBounds_toArray, List.set_cons_zero, List.set_cons_succ, i64_w, i32_w]
         rfl
        refine pure_ (i := 9) (N := some 83) (v := ?_) (a' := ?_) #[true, true, false, true, false, false, false, true, false, true, false, false, false, false, false, false] rfl rfl (by kernel_rfl) (fun _ _ _ h => h) (Or.inl ⟨by rfl, ?_⟩) ?_ ?_
        rotate_left
        ·
         intro w'
         go_simp
         with_reducible rfl
        rotate_left
        ·
         simp only [Act.put, List.setIfInBounds_toArray, List.set_cons_zero, List.set_cons_succ, i64_w, i32_w]
         rfl
        refine take_ (i := 2) (N := some 76) (v := ?_) (a' := ?_) #[true, true, true, true, false, false, false, true, false, true, false, false, false, false, false, false] rfl rfl (by kernel_rfl) (fun _ _ _ h => h) (Or.inl ⟨by rfl, ?_⟩) hHeld ?_ ?_
        rotate_left
        ·
         rintro w' ⟨s0, s1, s2, s3⟩
         go_simp
         with_reducible rfl
        rotate_left
        ·
         simp only [Act.put, List.setIfInBounds_toArray, List.set_cons_zero, List.set_cons_succ, i64_w, i32_w]
         rfl
        refine pure_ (i := 4) (N := some 78) (v := ?_) (a' := ?_) #[true, true, true, true, true, false, false, true, false, true, false, false, false, false, false, false] rfl rfl (by kernel_rfl) (fun _ _ _ h => h) (Or.inl ⟨by rfl, ?_⟩) ?_ ?_
        rotate_left
        ·
         intro w'
         go_simp
         with_reducible rfl
        rotate_left
        ·
         simp only [Act.put, List.setIfInBounds_toArray, List.set_cons_zero, List.set_cons_succ, i64_w, i32_w]
         rfl
        refine take_ (i := 5) (N := some 79) (v := ?_) (a' := ?_) #[true, true, true, true, true, true, false, true, false, true, false, false, false, false, false, false] rfl rfl (by kernel_rfl) (fun _ _ _ h => h) (Or.inl ⟨by rfl, ?_⟩) hHeld ?_ ?_
        rotate_left
        ·
         rintro w' ⟨s0, s1, s2, s3⟩
         go_simp
         with_reducible rfl
        rotate_left
        ·
         simp only [Act.put, List.setIfInBounds_toArray, List.set_cons_zero, List.set_cons_succ, i64_w, i32_w]
         rfl
        refine pure_ (i := 6) (N := some 80) (v := ?_) (a' := ?_) #[true, true, true, true, true, true, true, true, false, true, false, false, false, false, false, false] rfl rfl (by kernel_rfl) (fun _ _ _ h => h) (Or.inl ⟨by rfl, ?_⟩) ?_ ?_
        rotate_left
        ·
         intro w'
         go_simp
         with_reducible rfl
        rotate_left
        ·
         simp only [Act.put, List.setIfInBounds_toArray, List.set_cons_zero, List.set_cons_succ, i64_w, i32_w]
         rfl
        refine take_ (i := 8) (N := some 82) (v := ?_) (a' := ?_) #[true, true, true, true, true, true, true, true, true, true, false, false, false, false, false, false] rfl rfl (by kernel_rfl) (fun _ _ _ h => h) (Or.inl ⟨by rfl, ?_⟩) hHeld ?_ ?_
        rotate_left
        ·
         rintro w' ⟨s0, s1, s2, s3⟩
         go_simp
         with_reducible rfl
        rotate_left
        ·
         simp only [Act.put, List.setIfInBounds_toArray, List.set_cons_zero, List.set_cons_succ, i64_w, i32_w]
         rfl
        refine pure_ (i := 10) (N := some 84) (v := ?_) (a' := ?_) #[true, true, true, true, true, true, true, true, true, true, true, false, false, false, false, false] rfl rfl (by kernel_rfl) (fun _ _ _ h => h) (Or.inl ⟨by rfl, ?_⟩) ?_ ?_
        rotate_left
        ·
         intro w'
         go_simp
         with_reducible rfl
        rotate_left
        ·
         simp only [Act.put, List.setIfInBounds_toArray, List.set_cons_zero, List.set_cons_succ, i64_w, i32_w]
         rfl
        refine take_ (i := 11) (N := some 85) (v := ?_) (a' := ?_) #[true, true, true, true, true, true, true, true, true, true, true, true, false, false, false, false] rfl rfl (by kernel_rfl) (fun _ _ _ h => h) (Or.inl ⟨by rfl, ?_⟩) hHeld ?_ ?_
        rotate_left
        ·
         rintro w' ⟨s0, s1, s2, s3⟩
         go_simp
         with_reducible rfl
        rotate_left
        ·
         simp only [Act.put, List.setIfInBounds_toArray, List.set_cons_zero, List.set_cons_succ, i64_w, i32_w]
         rfl
        refine pure_ (i := 12) (N := some 86) (v := ?_) (a' := ?_) #[true, true, true, true, true, true, true, true, true, true, true, true, true, false, false, false] rfl rfl (by kernel_rfl) (fun _ _ _ h => h) (Or.inl ⟨by rfl, ?_⟩) ?_ ?_
        rotate_left
        ·
         intro w'
         go_simp
         with_reducible rfl
        rotate_left
        ·
         simp only [Act.put, List.setIfInBounds_toArray, List.set_cons_zero, List.set_cons_succ, i64_w, i32_w]
         rfl
        refine pure_ (i := 13) (N := some 87) (v := ?_) (a' := ?_) #[true, true, true, true, true, true, true, true, true, true, true, true, true, true, false, false] rfl rfl (by kernel_rfl) (fun _ _ _ h => h) (Or.inl ⟨by rfl, ?_⟩) ?_ ?_
        rotate_left
        ·
         intro w'
         go_simp
         with_reducible rfl
        rotate_left
        ·
         simp only [Act.put, List.setIfInBounds_toArray, List.set_cons_zero, List.set_cons_succ, i64_w, i32_w]
         rfl
        refine pure_ (i := 14) (N := some 88) (v := ?_) (a' := ?_) #[true, true, true, true, true, true, true, true, true, true, true, true, true, true, true, false] rfl rfl (by kernel_rfl) (fun _ _ _ h => h) (Or.inl ⟨by rfl, ?_⟩) ?_ ?_
        rotate_left
        ·
         intro w'
         go_simp
         with_reducible rfl
        rotate_left
        ·
         simp only [Act.put, List.setIfInBounds_toArray, List.set_cons_zero, List.set_cons_succ, i64_w, i32_w]
         rfl
        refine pure_ (i := 15) (N := some 15) (v := ?_) (a' := ?_) #[true, true, true, true, true, true, true, true, true, true, true, true, true, true, true, true] rfl rfl (by kernel_rfl) (fun _ _ _ h => h) (Or.inl ⟨by rfl, ?_⟩) ?_ ?_
        rotate_left
        ·
         intro w'
         go_simp
         with_reducible rfl
        rotate_left
        ·
         simp only [Act.put, List.setIfInBounds_toArray, List.set_cons_zero, List.set_cons_succ, i64_w, i32_w]
         rfl
        refine done_ (by kernel_rfl) ?_
        rw [HSUM.out]
        have HKd := Aside0.mk HKb.out.drew
        have HId := Aside0.mk (HIb.out.below ((Below.refl _ _).drew))
        clear x0 y0 xs0 ys0 x0a y0a xsa ysa x0b y0b xsb ysb
        obtain ⟨ex, ey⟩ := FE.out _ HKd.out
        go_wp2
        go_roundw
        case rel =>
         refine ⟨p + 1, tt + ((sx.size : Int) + (sy.size : Int)), ((b.onPut sy).onKeep (sx.size : Int)), m + (sx.size : Int) + (sy.size : Int), by omega, rfl, by go_num, HKd, HId, HG2, ⟨by have := HM.out; have := HNX.out; omega, by omega, by have := HM.out; omega⟩, ⟨?_⟩, ⟨?_⟩⟩
         ·
          have := HFO.out; rw [HEN.out, ro_end LDX.out, ← HEN.out, ← HSX.out, ← HSY.out] at this; rw [HEN.out, roAt_done]; exact this
         ·
          have := HTO.out; rw [HEN.out, ro_to_end LDX.out, ← HEN.out, ← HSX.out, ← HSY.out] at this; rw [HEN.out, roAt_done]; simp only [toOf]; omega
        case measure => simp [intOf]; omega
       | false =>
        go_wp2_with (first | (go_at_call 94; refine (rkeep_calls _ w.heap.size gb P (rbOf b) (sx.size : Int) HI.out (HBS.out _ HK.out) (HPF.out _ HK.out) (by have := (HG.out).bi.len; have := HMM.out; have := HM.out; have := HNX.out; show b.out.length ≤ _; omega) ((HG.out).f1 (by have := HMM.out; have := HM.out; have := HNX.out; omega)) (by have := (HG.out).bi.drop_le; have := HMM.out; have := HM.out; have := HNX.out; show b.drop ≤ _; omega) (by have := HMM.out; have := HM.out; have := HNX.out; omega) (by omega)).mono ?_; rintro e wa ⟨rfl, hba, hka⟩; rw [rbOf_keep (HG.out).bk.bw] at hba; have HIa := Aside0.mk hba; have HKa := Aside0.mk (HK.out.trans hka (fun _ h _ => h)); clear hba hka; obtain ⟨x0a, y0a, xsa, ysa⟩ := FX.out _ HKa.out) | (go_at_call 93; refine (rput_calls _ w.heap.size gb P (rbOf (b.onKeep (sx.size : Int))) sy HIa.out (by have := (HG.out.keep (n := (sx.size : Int)) (by omega)).bi.put_le; have := HMM.out; have := HM.out; have := HNX.out; show (b.onKeep (sx.size : Int)).put.size + sy.size ≤ _; omega)).mono ?_; rintro e wb ⟨rfl, hbb, hkb⟩; rw [rbOf_put] at hbb; have HIb := Aside0.mk hbb; have HKb := Aside0.mk (HKa.out.trans hkb (fun _ h _ => h)); clear hbb hkb; obtain ⟨x0b, y0b, xsb, ysb⟩ := FX.out _ HKb.out))
        have HG2 := Aside0.mk (show BG ((b.onKeep (sx.size : Int)).onPut sy) (m + (sx.size : Int) + (sy.size : Int)) from HG.out.place (first := false) (s := sx) (t := sy))
        refine start_ (n := 16) (S := fun w' => w'.cell? ⟨gx, 0, none⟩ = some (.slice (some adx) (PL l0).length cX) ∧ w'.cell? ⟨gy, 0, none⟩ = some (.slice (some ady) (PL l1).length cY) ∧ w'.cell? (adx.add p) = some (.string sx) ∧ w'.cell? (ady.add p) = some (.string sy)) (ds := []) #[false, false, false, false, false, false, false, false, false, false, false, false, false, false, false, false] (by kernel_rfl) rfl rfl ⟨(FX.out _ HKb.out.drew).1, (FX.out _ HKb.out.drew).2.1, (FX.out _ HKb.out.drew).2.2.1, (FX.out _ HKb.out.drew).2.2.2⟩ (fun hHeld => ?_)
        refine pure_ (i := 0) (N := some 74) (v := ?_) (a' := ?_) #[true, false, false, false, false, false, false, false, false, false, false, false, false, false, false, false] rfl rfl (by kernel_rfl) (fun _ _ _ h => h) (Or.inl ⟨by rfl, ?_⟩) ?_ ?_
        rotate_left
        ·
         intro w'
         go_simp
         with_reducible rfl
        rotate_left
        ·
         simp only [Act.put, List.setIfInBounds_toArray, List.set_cons_zero, List.set_cons_succ, i64_w, i32_w]
         rfl
        refine pure_ (i := 1) (N := some 75) (v := ?_) (a' := ?_) #[true, true, false, false, false, false, false, false, false, false, false, false, false, false, false, false] rfl rfl (by kernel_rfl) (fun _ _ _ h => h) (Or.inl ⟨by rfl, ?_⟩) ?_ ?_
        rotate_left
        ·
         intro w'
         go_simp
         with_reducible rfl
        rotate_left
        ·
         simp only [Act.put, List.setIfInBounds_toArray, List.set_cons_zero, List.set_cons_succ, i64_w, i32_w]
         rfl
        refine pure_ (i := 3) (N := some 77) (v := ?_) (a' := ?_) #[true, true, false, true, false, false, false, false, false, false, false, false, false, false, false, false] rfl rfl (by kernel_rfl) (fun _ _ _ h => h) (Or.inl ⟨by rfl, ?_⟩) ?_ ?_
        rotate_left
        ·
         intro w'
         go_simp
         with_reducible rfl
        rotate_left
        ·
         simp only [Act.put, List.setIfInBounds_toArray, List.set_cons_zero, List.set_cons_succ, i64_w, i32_w]
         rfl
        refine pure_ (i := 7) (N := some 81) (v := ?_) (a' := ?_) #[true, true, false, true, false, false, false, true, false, false, false, false, false, false, false, false] rfl rfl (by kernel_rfl) (fun _ _ _ h => h) (Or.inl ⟨by rfl, ?_⟩) ?_ ?_
        rotate_left
        ·
         intro w'
         go_simp
         with_reducible rfl
        rotate_left
        ·
         simp only [Act.put, List.setIfInBounds_toArray, List.set_cons_zero, List.set_cons_succ, i64_w, i32_w]
         rfl
        refine pure_ (i := 9) (N := some 83) (v := ?_) (a' := ?_) #[true, true, false, true, false, false, false, true, false, true, false, false, false, false, false, false] rfl rfl (by kernel_rfl) (fun _ _ _ h => h) (Or.inl ⟨by rfl, ?_⟩) ?_ ?_
        rotate_left
        ·
         intro w'
         go_simp
         with_reducible rfl
        rotate_left
        ·
         simp only [Act.put, List.setIfInBounds_toArray, List.set_cons_zero, List.set_cons_succ, i64_w, i32_w]
         rfl
        refine take_ (i := 2) (N := some 76) (v := ?_) (a' := ?_) #[true, true, true, true, false, false, false, true, false, true, false, false, false, false, false, false] rfl rfl (by kernel_rfl) (fun _ _ _ h => h) (Or.inl ⟨by rfl, ?_⟩) hHeld ?_ ?_
        rotate_left
        ·
         rintro w' ⟨s0, s1, s2, s3⟩
         go_simp
         with_reducible rfl
        rotate_left
        ·
         simp only [Act.put, List.setIfInBounds_toArray, List.set_cons_zero, List.set_cons_succ, i64_w, i32_w]
         rfl
        refine pure_ (i := 4) (N := some 78) (v := ?_) (a' := ?_) #[true, true, true, true, true, false, false, true, false, true, false, false, false, false, false, false] rfl rfl (by kernel_rfl) (fun _ _ _ h => h) (Or.inl ⟨by rfl, ?_⟩) ?_ ?_
        rotate_left
        ·
         intro w'
         go_simp
         with_reducible rfl
        rotate_left
        ·
         simp only [Act.put, List.setIfInBounds_toArray, List.set_cons_zero, List.set_cons_succ, i64_w, i32_w]
         rfl
        refine take_ (i := 5) (N := some 79) (v := ?_) (a' := ?_) #[true, true, true, true, true, true, false, true, false, true, false, false, false, false, false, false] rfl rfl (by kernel_rfl) (fun _ _ _ h => h) (Or.inl ⟨by rfl, ?_⟩) hHeld ?_ ?_
        rotate_left
        ·
         rintro w' ⟨s0, s1, s2, s3⟩
         go_simp
         with_reducible rfl
        rotate_left
        ·
         simp only [Act.put, List.setIfInBounds_toArray, List.set_cons_zero, List.set_cons_succ, i64_w, i32_w]
         rfl
        refine pure_ (i := 6) (N := some 80) (v := ?_) (a' := ?_) #[true, true, true, true, true, true, true, true, false, true, false, false, false, false, false, false] rfl rfl (by kernel_rfl) (fun _ _ _ h => h) (Or.inl ⟨by rfl, ?_⟩) ?_ ?_
        rotate_left
        ·
         intro w'
         go_simp
         with_reducible rfl
        rotate_left
        ·
         simp only [Act.put, List.setIfInBounds_toArray, List.set_cons_zero, List.set_cons_succ, i64_w, i32_w]
         rfl
        refine take_ (i := 8) (N := some 82) (v := ?_) (a' := ?_) #[true, true, true, true, true, true, true, true, true, true, false, false, false, false, false, false] rfl rfl (by kernel_rfl) (fun _ _ _ h => h) (Or.inl ⟨by rfl, ?_⟩) hHeld ?_ ?_
        rotate_left
        ·
         rintro w' ⟨s0, s1, s2, s3⟩
         go_simp
         with_reducible rfl
        rotate_left
        ·
         simp only [Act.put, List.setIfInBounds_toArray, List.set_cons_zero, List.set_cons_succ, i64_w, i32_w]
         rfl
        refine pure_ (i := 10) (N := some 84) (v := ?_) (a' := ?_) #[true, true, true, true, true, true, true, true, true, true, true, false, false, false, false, false] rfl rfl (by kernel_rfl) (fun _ _ _ h => h) (Or.inl ⟨by rfl, ?_⟩) ?_ ?_
        rotate_left
        ·
         intro w'
         go_simp
         with_reducible rfl
        rotate_left
        ·
         simp only [Act.put, List.setIfInBounds_toArray, List.set_cons_zero, List.set_cons_succ, i64_w, i32_w]
         rfl
        refine take_ (i := 11) (N := some 85) (v := ?_) (a' := ?_) #[true, true, true, true, true, true, true, true, true, true, true, true, false, false, false, false] rfl rfl (by kernel_rfl) (fun _ _ _ h => h) (Or.inl ⟨by rfl, ?_⟩) hHeld ?_ ?_
        rotate_left
        ·
         rintro w' ⟨s0, s1, s2, s3⟩
         go_simp
         with_reducible rfl
        rotate_left
        ·
         simp only [Act.put, List.setIfInBounds_toArray, List.set_cons_zero, List.set_cons_succ, i64_w, i32_w]
         rfl
        refine pure_ (i := 12) (N := some 86) (v := ?_) (a' := ?_) #[true, true, true, true, true, true, true, true, true, true, true, true, true, false, false, false] rfl rfl (by kernel_rfl) (fun _ _ _ h => h) (Or.inl ⟨by rfl, ?_⟩) ?_ ?_
        rotate_left
        ·
         intro w'
         go_simp
         with_reducible rfl
        rotate_left
        ·
         simp only [Act.put, List.setIfInBounds_toArray, List.set_cons_zero, List.set_cons_succ, i64_w, i32_w]
         rfl
        refine pure_ (i := 13) (N := some 87) (v := ?_) (a' := ?_) #[true, true, true, true, true, true, true, true, true, true, true, true, true, true, false, false] rfl rfl (by kernel_rfl) (fun _ _ _ h => h) (Or.inl ⟨by rfl, ?_⟩) ?_ ?_
        rotate_left
        ·
         intro w'
         go_simp
         with_reducible rfl
        rotate_left
        ·
         simp only [Act.put, List.setIfInBounds_toArray, List.set_cons_zero, List.set_cons_succ, i64_w, i32_w]
         rfl
        refine pure_ (i := 14) (N := some 88) (v := ?_) (a' := ?_) #[true, true, true, true, true, true, true, true, true, true, true, true, true, true, true, false] rfl rfl (by kernel_rfl) (fun _ _ _ h => h) (Or.inl ⟨by rfl, ?_⟩) ?_ ?_
        rotate_left
        ·
         intro w'
         go_simp
         with_reducible rfl
        rotate_left
        ·
         simp only [Act.put, List.setIfInBounds_toArray, List.set_cons_zero, List.set_cons_succ, i64_w, i32_w]
         rfl
        refine pure_ (i := 15) (N := some 15) (v := ?_) (a' := ?_) #[true, true, true, true, true, true, true, true, true, true, true, true, true, true, true, true] rfl rfl (by kernel_rfl) (fun _ _ _ h => h) (Or.inl ⟨by rfl, ?_⟩) ?_ ?_
        rotate_left
        ·
         intro w'
         go_simp
         with_reducible rfl
        rotate_left
        ·
         simp only [Act.put, List.setIfInBounds_toArray, List.set_cons_zero, List.set_cons_succ, i64_w, i32_w]
         rfl
        refine done_ (by kernel_rfl) ?_
        rw [HSUM.out]
        have HKd := Aside0.mk HKb.out.drew
        have HId := Aside0.mk (HIb.out.below ((Below.refl _ _).drew))
        clear x0 y0 xs0 ys0 x0a y0a xsa ysa x0b y0b xsb ysb
        obtain ⟨ex, ey⟩ := FE.out _ HKd.out
        go_wp2
        go_roundw
        case rel =>
         refine ⟨p + 1, tt + ((sx.size : Int) + (sy.size : Int)), ((b.onKeep (sx.size : Int)).onPut sy), m + (sx.size : Int) + (sy.size : Int), by omega, rfl, by go_num, HKd, HId, HG2, ⟨by have := HM.out; have := HNX.out; omega, by omega, by have := HM.out; omega⟩, ⟨?_⟩, ⟨?_⟩⟩
         ·
          have := HFO.out; rw [HEN.out, ro_end LDX.out, ← HEN.out, ← HSX.out, ← HSY.out] at this; rw [HEN.out, roAt_done]; exact this
         ·
          have := HTO.out; rw [HEN.out, ro_to_end LDX.out, ← HEN.out, ← HSX.out, ← HSY.out] at this; rw [HEN.out, roAt_done]; simp only [toOf]; omega
        case measure => simp [intOf]; omega
      ·
       have hpe : ((p : Int) == (n : Int)) = false := beq_eq_false_iff_ne.mpr (by omega)
       have HLT := Aside0.mk (show p < n by omega)
       have hlx : (p : Int) < ((DL l0).length : Int) := by have := LDX.out; omega
       have hly : (p : Int) < ((DL l1).length : Int) := by have := LDY.out; omega
       obtain ⟨edx, hedx, _⟩ := at_B (HEX.out _ HK.out) (p : Int) hp0 hlx
       obtain ⟨edy, hedy, _⟩ := at_B (HEY.out _ HK.out) (p : Int) hp0 hly
       have EXQ := Aside0.mk (show ∀ W, Kp P w10 W → W.cell? (edx.add p) = some (.bool (rdB (DL l0) (p : Int))) from fun W h => by have h1 := HEX.out W h; rw [hedx] at h1; have := at_B' h1 (p : Int) hp0 hlx; rwa [Int.toNat_natCast] at this)
       have EYQ := Aside0.mk (show ∀ W, Kp P w10 W → W.cell? (edy.add p) = some (.bool (rdB (DL l1) (p : Int))) from fun W h => by have h1 := HEY.out W h; rw [hedy] at h1; have := at_B' h1 (p : Int) hp0 hly; rwa [Int.toNat_natCast] at this)
       have FE := Aside0.mk (show ∀ W, Kp P w10 W → W.cell? ⟨gx, 1, none⟩ = some (.slice (some edx) (DL l0).length dX) ∧ W.cell? ⟨gy, 1, none⟩ = some (.slice (some edy) (DL l1).length dY) from fun W h => by have := FE.out W h; rw [hedx, hedy] at this; exact this)
       clear hedx hedy hend
       cases hdx : rdB (DL l0) (p : Int) with
       | true =>
        have HDXV := Aside0.mk hdx
        clear hdx
        cases a2 with
        | true =>
         go_wp2_with (first | (go_at_call 93; refine (rput_calls _ w.heap.size gb P (rbOf b) sy HI.out (by have := (HG.out).bi.put_le; have := HMM.out; have := HM.out; have := HNX.out; show b.put.size + sy.size ≤ _; omega)).mono ?_; rintro e wa ⟨rfl, hba, hka⟩; rw [rbOf_put] at hba; have HIa := Aside0.mk hba; have HKa := Aside0.mk (HK.out.trans hka (fun _ h _ => h)); clear hba hka; obtain ⟨x0a, y0a, xsa, ysa⟩ := FX.out _ HKa.out) | (go_at_call 94; refine (rkeep_calls _ w.heap.size gb P (rbOf (b.onPut sy)) (sx.size : Int) HIa.out (HBS.out _ HKa.out) (HPF.out _ HKa.out) (by have := (HG.out.put sy).bi.len; have := HMM.out; have := HM.out; have := HNX.out; show (b.onPut sy).out.length ≤ _; omega) ((HG.out.put sy).f1 (by have := HMM.out; have := HM.out; have := HNX.out; omega)) (by have := (HG.out.put sy).bi.drop_le; have := HMM.out; have := HM.out; have := HNX.out; show (b.onPut sy).drop ≤ _; omega) (by have := HMM.out; have := HM.out; have := HNX.out; omega) (by omega)).mono ?_; rintro e wb ⟨rfl, hbb, hkb⟩; rw [rbOf_keep (HG.out.put sy).bk.bw] at hbb; have HIb := Aside0.mk hbb; have HKb := Aside0.mk (HKa.out.trans hkb (fun _ h _ => h)); clear hbb hkb; obtain ⟨x0b, y0b, xsb, ysb⟩ := FX.out _ HKb.out))
         have HG2 := Aside0.mk (show BG ((b.onPut sy).onKeep (sx.size : Int)) (m + (sx.size : Int) + (sy.size : Int)) from HG.out.place (first := true) (s := sx) (t := sy))
         refine start_ (n := 16) (S := fun w' => w'.cell? ⟨gx, 0, none⟩ = some (.slice (some adx) (PL l0).length cX) ∧ w'.cell? ⟨gy, 0, none⟩ = some (.slice (some ady) (PL l1).length cY) ∧ w'.cell? (adx.add p) = some (.string sx) ∧ w'.cell? (ady.add p) = some (.string sy)) (ds := []) #[false, false, false, false, false, false, false, false, false, false, false, false, false, false, false, false] (by kernel_rfl) rfl rfl ⟨(FX.out _ HKb.out.drew).1, (FX.out _ HKb.out.drew).2.1, (FX.out _ HKb.out.drew).2.2.1, (FX.out _ HKb.out.drew).2.2.2⟩ (fun hHeld => ?_)
         refine pure_ (i := 0) (N := some 74) (v := ?_) (a' := ?_) #[true, false, false, false, false, false, false, false, false, false, false, false, false, false, false, false] rfl rfl (by kernel_rfl) (fun _ _ _ h => h) (Or.inl ⟨by rfl, ?_⟩) ?_ ?_
         rotate_left
         ·
          intro w'
          go_simp
          with_reducible rfl
         rotate_left
         ·
          simp only [Act.put, List.setIfInBounds_toArray, List.set_cons_zero, List.set_cons_succ, i64_w, i32_w]
          rfl
         refine pure_ (i := 1) (N := some 75) (v := ?_) (a' := ?_) #[true, true, false, false, false, false, false, false, false, false, false, false, false, false, false, false] rfl rfl (by kernel_rfl) (fun _ _ _ h => h) (Or.inl ⟨by rfl, ?_⟩) ?_ ?_
         rotate_left
         ·
          intro w'
          go_simp
          with_reducible rfl
         rotate_left
         ·
          simp only [Act.put, List.setIfInBounds_toArray, List.set_cons_zero, List.set_cons_succ, i64_w, i32_w]
          rfl
         refine pure_ (i := 3) (N := some 77) (v := ?_) (a' := ?_) #[true, true, false, true, false, false, false, false, false, false, false, false, false, false, false, false] rfl rfl (by kernel_rfl) (fun _ _ _ h => h) (Or.inl ⟨by rfl, ?_⟩) ?_ ?_
         rotate_left
         ·
          intro w'
          go_simp
          with_reducible rfl
         rotate_left
         ·
          simp only [Act.put, List.setIfInBounds_toArray, List.set_cons_zero, List.set_cons_succ, i64_w, i32_w]
          rfl
         refine pure_ (i := 7) (N := some 81) (v := ?_) (a' := ?_) #[true, true, false, true, false, false, false, true, false, false, false, false, false, false, false, false] rfl rfl (by kernel_rfl) (fun _ _ _ h => h) (Or.inl ⟨by rfl, ?_⟩) ?_ ?_
         rotate_left
         ·
          intro w'
          go_simp
          with_reducible rfl
         rotate_left
         ·
          simp only [Act.put, List.setIfInBounds_toArray, List.set_cons_zero, List.set_cons_succ, i64_w, i32_w]
          rfl
         refine pure_ (i := 9) (N := some 83) (v := ?_) (a' := ?_) #[true, true, false, true, false, false, false, true, false, true, false, false, false, false, false, false] rfl rfl (by kernel_rfl) (fun _ _ _ h => h) (Or.inl ⟨by rfl, ?_⟩) ?_ ?_
         rotate_left
         ·
          intro w'
          go_simp
          with_reducible rfl
         rotate_left
         ·
          simp only [Act.put, List.setIfInBounds_toArray, List.set_cons_zero, List.set_cons_succ, i64_w, i32_w]
          rfl
         refine take_ (i := 2) (N := some 76) (v := ?_) (a' := ?_) #[true, true, true, true, false, false, false, true, false, true, false, false, false, false, false, false] rfl rfl (by kernel_rfl) (fun _ _ _ h => h) (Or.inl ⟨by rfl, ?_⟩) hHeld ?_ ?_
         rotate_left
         ·
          rintro w' ⟨s0, s1, s2, s3⟩
          go_simp
          with_reducible rfl
         rotate_left
         ·
          simp only [Act.put, List.setIfInBounds_toArray, List.set_cons_zero, List.set_cons_succ, i64_w, i32_w]
          rfl
         refine pure_ (i := 4) (N := some 78) (v := ?_) (a' := ?_) #[true, true, true, true, true, false, false, true, false, true, false, false, false, false, false, false] rfl rfl (by kernel_rfl) (fun _ _ _ h => h) (Or.inl ⟨by rfl, ?_⟩) ?_ ?_
         rotate_left
         ·
          intro w'
          go_simp
          with_reducible rfl
         rotate_left
         ·
          simp only [Act.put, List.setIfInBounds_toArray, List.set_cons_zero, List.set_cons_succ, i64_w, i32_w]
          rfl
         refine take_ (i := 5) (N := some 79) (v := ?_) (a' := ?_) #[true, true, true, true, true, true, false, true, false, true, false, false, false, false, false, false] rfl rfl (by kernel_rfl) (fun _ _ _ h => h) (Or.inl ⟨by rfl, ?_⟩) hHeld ?_ ?_
         rotate_left
         ·
          rintro w' ⟨s0, s1, s2, s3⟩
          go_simp
          with_reducible rfl
         rotate_left
         ·
          simp only [Act.put, List.setIfInBounds_toArray, List.set_cons_zero, List.set_cons_succ, i64_w, i32_w]
          rfl
         refine pure_ (i := 6) (N := some 80) (v := ?_) (a' := ?_) #[true, true, true, true, true, true, true, true, false, true, false, false, false, false, false, false] rfl rfl (by kernel_rfl) (fun _ _ _ h => h) (Or.inl ⟨by rfl, ?_⟩) ?_ ?_
         rotate_left
         ·
          intro w'
          go_simp
          with_reducible rfl
         rotate_left
         ·
          simp only [Act.put, List.setIfInBounds_toArray, List.set_cons_zero, List.set_cons_succ, i64_w, i32_w]
          rfl
         refine take_ (i := 8) (N := some 82) (v := ?_) (a' := ?_) #[true, true, true, true, true, true, true, true, true, true, false, false, false, false, false, false] rfl rfl (by kernel_rfl) (fun _ _ _ h => h) (Or.inl ⟨by rfl, ?_⟩) hHeld ?_ ?_
         rotate_left
         ·
          rintro w' ⟨s0, s1, s2, s3⟩
          go_simp
          with_reducible rfl
         rotate_left
         ·
          simp only [Act.put, List.setIfInBounds_toArray, List.set_cons_zero, List.set_cons_succ, i64_w, i32_w]
          rfl
         refine pure_ (i := 10) (N := some 84) (v := ?_) (a' := ?_) #[true, true, true, true, true, true, true, true, true, true, true, false, false, false, false, false] rfl rfl (by kernel_rfl) (fun _ _ _ h => h) (Or.inl ⟨by rfl, ?_⟩) ?_ ?_
         rotate_left
         ·
          intro w'
          go_simp
          with_reducible rfl
         rotate_left
         ·
          simp only [Act.put, List.setIfInBounds_toArray, List.set_cons_zero, List.set_cons_succ, i64_w, i32_w]
          rfl
         refine take_ (i := 11) (N := some 85) (v := ?_) (a' := ?_) #[true, true, true, true, true, true, true, true, true, true, true, true, false, false, false, false] rfl rfl (by kernel_rfl) (fun _ _ _ h => h) (Or.inl ⟨by rfl, ?_⟩) hHeld ?_ ?_
         rotate_left
         ·
          rintro w' ⟨s0, s1, s2, s3⟩
          go_simp
          with_reducible rfl
         rotate_left
         ·
          simp only [Act.put, List.setIfInBounds_toArray, List.set_cons_zero, List.set_cons_succ, i64_w, i32_w]
          rfl
         refine pure_ (i := 12) (N := some 86) (v := ?_) (a' := ?_) #[true, true, true, true, true, true, true, true, true, true, true, true, true, false, false, false] rfl rfl (by kernel_rfl) (fun _ _ _ h => h) (Or.inl ⟨by rfl, ?_⟩) ?_ ?_
         rotate_left
         ·
          intro w'
          go_simp
          with_reducible rfl
         rotate_left
         ·
          simp only [Act.put, List.setIfInBounds_toArray, List.set_cons_zero, List.set_cons_succ, i64_w, i32_w]
          rfl
         refine pure_ (i := 13) (N := some 87) (v := ?_) (a' := ?_) #[true, true, true, true, true, true, true, true, true, true, true, true, true, true, false, false] rfl rfl (by kernel_rfl) (fun _ _ _ h => h) (Or.inl ⟨by rfl, ?_⟩) ?_ ?_
         rotate_left
         ·
          intro w'
          go_simp
          with_reducible rfl
         rotate_left
         ·
          simp only [Act.put, List.setIfInBounds_toArray, List.set_cons_zero, List.set_cons_succ, i64_w, i32_w]
          rfl
         refine pure_ (i := 14) (N := some 88) (v := ?_) (a' := ?_) #[true, true, true, true, true, true, true, true, true, true, true, true, true, true, true, false] rfl rfl (by kernel_rfl) (fun _ _ _ h => h) (Or.inl ⟨by rfl, ?_⟩) ?_ ?_
         rotate_left
         ·
          intro w'
          go_simp
          with_reducible rfl
         rotate_left
         ·
          simp only [Act.put, List.setIfInBounds_toArray, List.set_cons_zero, List.set_cons_succ, i64_w, i32_w]
          rfl
         refine pure_ (i := 15) (N := some 15) (v := ?_) (a' := ?_) #[true, true, true, true, true, true, true, true, true, true, true, true, true, true, true, true] rfl rfl (by kernel_rfl) (fun _ _ _ h => h) (Or.inl ⟨by rfl, ?_⟩) ?_ ?_
         rotate_left
         ·
          intro w'
          go_simp
          with_reducible rfl
         rotate_left
         ·
          simp only [Act.put, List.setIfInBounds_toArray, List.set_cons_zero, List.set_cons_succ, i64_w, i32_w]
          rfl
         refine done_ (by kernel_rfl) ?_
         rw [HSUM.out]
         have HKd := Aside0.mk HKb.out.drew
         have HId := Aside0.mk (HIb.out.below ((Below.refl _ _).drew))
         clear x0 y0 xs0 ys0 x0a y0a xsa ysa x0b y0b xsb ysb
         obtain ⟨ex, ey⟩ := FE.out _ HKd.out
         have hex : (wb.drew).cell? (edx.add p) = some (.bool (rdB (DL l0) (p : Int))) := EXQ.out _ HKd.out
         rw [HDXV.out] at hex
         go_wp2
         go_roundw
         case rel =>
          refine ⟨p + 1, tt + ((sx.size : Int) + (sy.size : Int)), ((b.onPut sy).onKeep (sx.size : Int)), m + (sx.size : Int) + (sy.size : Int), by omega, rfl, by go_num, HKd, HId, HG2, ⟨by have := HM.out; have := HNX.out; omega, by omega, by have := HM.out; omega⟩, ⟨?_⟩, ⟨?_⟩⟩
          ·
           have := HFO.out; rw [ro_round LDX.out LDY.out HLT.out, ← HSX.out, ← HSY.out, HDXV.out] at this; exact this
          ·
           have := HTO.out; rw [ro_to LDX.out LDY.out HLT.out, ← HSX.out, ← HSY.out, HDXV.out] at this; simp only [oneN, if_true] at this; omega
         case measure => simp [intOf]; omega
        | false =>
         go_wp2_with (first | (go_at_call 94; refine (rkeep_calls _ w.heap.size gb P (rbOf b) (sx.size : Int) HI.out (HBS.out _ HK.out) (HPF.out _ HK.out) (by have := (HG.out).bi.len; have := HMM.out; have := HM.out; have := HNX.out; show b.out.length ≤ _; omega) ((HG.out).f1 (by have := HMM.out; have := HM.out; have := HNX.out; omega)) (by have := (HG.out).bi.drop_le; have := HMM.out; have := HM.out; have := HNX.out; show b.drop ≤ _; omega) (by have := HMM.out; have := HM.out; have := HNX.out; omega) (by omega)).mono ?_; rintro e wa ⟨rfl, hba, hka⟩; rw [rbOf_keep (HG.out).bk.bw] at hba; have HIa := Aside0.mk hba; have HKa := Aside0.mk (HK.out.trans hka (fun _ h _ => h)); clear hba hka; obtain ⟨x0a, y0a, xsa, ysa⟩ := FX.out _ HKa.out) | (go_at_call 93; refine (rput_calls _ w.heap.size gb P (rbOf (b.onKeep (sx.size : Int))) sy HIa.out (by have := (HG.out.keep (n := (sx.size : Int)) (by omega)).bi.put_le; have := HMM.out; have := HM.out; have := HNX.out; show (b.onKeep (sx.size : Int)).put.size + sy.size ≤ _; omega)).mono ?_; rintro e wb ⟨rfl, hbb, hkb⟩; rw [rbOf_put] at hbb; have HIb := Aside0.mk hbb; have HKb := Aside0.mk (HKa.out.trans hkb (fun _ h _ => h)); clear hbb hkb; obtain ⟨x0b, y0b, xsb, ysb⟩ := FX.out _ HKb.out))
         have HG2 := Aside0.mk (show BG ((b.onKeep (sx.size : Int)).onPut sy) (m + (sx.size : Int) + (sy.size : Int)) from HG.out.place (first := false) (s := sx) (t := sy))
         refine start_ (n := 16) (S := fun w' => w'.cell? ⟨gx, 0, none⟩ = some (.slice (some adx) (PL l0).length cX) ∧ w'.cell? ⟨gy, 0, none⟩ = some (.slice (some ady) (PL l1).length cY) ∧ w'.cell? (adx.add p) = some (.string sx) ∧ w'.cell? (ady.add p) = some (.string sy)) (ds := []) #[false, false, false, false, false, false, false, false, false, false, false, false, false, false, false, false] (by kernel_rfl) rfl rfl ⟨(FX.out _ HKb.out.drew).1, (FX.out _ HKb.out.drew).2.1, (FX.out _ HKb.out.drew).2.2.1, (FX.out _ HKb.out.drew).2.2.2⟩ (fun hHeld => ?_)
         refine pure_ (i := 0) (N := some 74) (v := ?_) (a' := ?_) #[true, false, false, false, false, false, false, false, false, false, false, false, false, false, false, false] rfl rfl (by kernel_rfl) (fun _ _ _ h => h) (Or.inl ⟨by rfl, ?_⟩) ?_ ?_
         rotate_left
         ·
          intro w'
          go_simp
          with_reducible rfl
         rotate_left
         ·
          simp only [Act.put, List.setIfInBounds_toArray, List.set_cons_zero, List.set_cons_succ, i64_w, i32_w]
          rfl
         refine pure_ (i := 1) (N := some 75) (v := ?_) (a' := ?_) #[true, true, false, false, false, false, false, false, false, false, false, false, false, false, false, false] rfl rfl (by kernel_rfl) (fun _ _ _ h => h) (Or.inl ⟨by rfl, ?_⟩) ?_ ?_
         rotate_left
         ·
          intro w'
          go_simp
          with_reducible rfl
         rotate_left
         ·
          simp only [Act.put, List.setIfInBounds_toArray, List.set_cons_zero, List.set_cons_succ, i64_w, i32_w]
          rfl
         refine pure_ (i := 3) (N := some 77) (v := ?_) (a' := ?_) #[true, true, false, true, false, false, false, false, false, false, false, false, false, false, false, false] rfl rfl (by kernel_rfl) (fun _ _ _ h => h) (Or.inl ⟨by rfl, ?_⟩) ?_ ?_
         rotate_left
         ·
          intro w'
          go_simp
          with_reducible rfl
         rotate_left
         ·
          simp only [Act.put, List.setIfInBounds_toArray, List.set_cons_zero, List.set_cons_succ, i64_w, i32_w]
          rfl
         refine pure_ (i := 7) (N := some 81) (v := ?_) (a' := ?_) #[true, true, false, true, false, false, false, true, false, false, false, false, false, false, false, false] rfl rfl (by kernel_rfl) (fun _ _ _ h => h) (Or.inl ⟨by rfl, ?_⟩) ?_ ?_
         rotate_left
         ·
          intro w'
          go_simp
          with_reducible rfl
         rotate_left
         ·
          simp only [Act.put, List.setIfInBounds_toArray, List.set_cons_zero, List.set_cons_succ, i64_w, i32_w]
          rfl
         refine pure_ (i := 9) (N := some 83) (v := ?_) (a' := ?_) #[true, true, false, true, false, false, false, true, false, true, false, false, false, false, false, false] rfl rfl (by kernel_rfl) (fun _ _ _ h => h) (Or.inl ⟨by rfl, ?_⟩) ?_ ?_
         rotate_left
         ·
          intro w'
          go_simp
          with_reducible rfl
         rotate_left
         ·
          simp only [Act.put, List.setIfInBounds_toArray, List.set_cons_zero, List.set_cons_succ, i64_w, i32_w]
          rfl
         refine take_ (i := 2) (N := some 76) (v := ?_) (a' := ?_) #[true, true, true, true, false, false, false, true, false, true, false, false, false, false, false, false] rfl rfl (by kernel_rfl) (fun _ _ _ h => h) (Or.inl ⟨by rfl, ?_⟩) hHeld ?_ ?_
         rotate_left
         ·
          rintro w' ⟨s0, s1, s2, s3⟩
          go_simp
          with_reducible rfl
         rotate_left
         ·
          simp only [Act.put, List.setIfInBounds_toArray, List.set_cons_zero, List.set_cons_succ, i64_w, i32_w]
          rfl
         refine pure_ (i := 4) (N := some 78) (v := ?_) (a' := ?_) #[true, true, true, true, true, false, false, true, false, true, false, false, false, false, false, false] rfl rfl (by kernel_rfl) (fun _ _ _ h => h) (Or.inl ⟨by rfl, ?_⟩) ?_ ?_
         rotate_left
         ·
          intro w'
          go_simp
          with_reducible rfl
         rotate_left
         ·
          simp only [Act.put, List.setIfInBounds_toArray, List.set_cons_zero, List.set_cons_succ, i64_w, i32_w]
          rfl
         refine take_ (i := 5) (N := some 79) (v := ?_) (a' := ?_) #[true, true, true, true, true, true, false, true, false, true, false, false, false, false, false, false] rfl rfl (by kernel_rfl) (fun _ _ _ h => h) (Or.inl ⟨by rfl, ?_⟩) hHeld ?_ ?_
         rotate_left
         ·
          rintro w' ⟨s0, s1, s2, s3⟩
          go_simp
          with_reducible rfl
         rotate_left
         ·
          simp only [Act.put, List.setIfInBounds_toArray, List.set_cons_zero, List.set_cons_succ, i64_w, i32_w]
          rfl
         refine pure_ (i := 6) (N := some 80) (v := ?_) (a' := ?_) #[true, true, true, true, true, true, true, true, false, true, false, false, false, false, false, false] rfl rfl (by kernel_rfl) (fun _ _ _ h => h) (Or.inl ⟨by rfl, ?_⟩) ?_ ?_
         rotate_left
         ·
          intro w'
          go_simp
          with_reducible rfl
         rotate_left
         ·
          simp only [Act.put, List.setIfInBounds_toArray, List.set_cons_zero, List.set_cons_succ, i64_w, i32_w]
          rfl
         refine take_ (i := 8) (N := some 82) (v := ?_) (a' := ?_) #[true, true, true, true, true, true, true, true, true, true, false, false, false, false, false, false] rfl rfl (by kernel_rfl) (fun _ _ _ h => h) (Or.inl ⟨by rfl, ?_⟩) hHeld ?_ ?_
         rotate_left
         ·
          rintro w' ⟨s0, s1, s2, s3⟩
          go_simp
          with_reducible rfl
         rotate_left
         ·
          simp only [Act.put, List.setIfInBounds_toArray, List.set_cons_zero, List.set_cons_succ, i64_w, i32_w]
          rfl
         refine pure_ (i := 10) (N := some 84) (v := ?_) (a' := ?_) #[true, true, true, true, true, true, true, true, true, true, true, false, false, false, false, false] rfl rfl (by kernel_rfl) (fun _ _ _ h => h) (Or.inl ⟨by rfl, ?_⟩) ?_ ?_
         rotate_left
         ·
          intro w'
          go_simp
          with_reducible rfl
         rotate_left
         ·
          simp only [Act.put, List.setIfInBounds_toArray, List.set_cons_zero, List.set_cons_succ, i64_w, i32_w]
          rfl
         refine take_ (i := 11) (N := some 85) (v := ?_) (a' := ?_) #[true, true, true, true, true, true, true, true, true, true, true, true, false, false, false, false] rfl rfl (by kernel_rfl) (fun _ _ _ h => h) (Or.inl ⟨by rfl, ?_⟩) hHeld ?_ ?_
         rotate_left
         ·
          rintro w' ⟨s0, s1, s2, s3⟩
          go_simp
          with_reducible rfl
         rotate_left
         ·
          simp only [Act.put, List.setIfInBounds_toArray, List.set_cons_zero, List.set_cons_succ, i64_w, i32_w]
          rfl
         refine pure_ (i := 12) (N := some 86) (v := ?_) (a' := ?_) #[true, true, true, true, true, true, true, true, true, true, true, true, true, false, false, false] rfl rfl (by kernel_rfl) (fun _ _ _ h => h) (Or.inl ⟨by rfl, ?_⟩) ?_ ?_
         rotate_left
         ·
          intro w'
          go_simp
          with_reducible rfl
         rotate_left
         ·
          simp only [Act.put, List.setIfInBounds_toArray, List.set_cons_zero, List.set_cons_succ, i64_w, i32_w]
          rfl
         refine pure_ (i := 13) (N := some 87) (v := ?_) (a' := ?_) #[true, true, true, true, true, true, true, true, true, true, true, true, true, true, false, false] rfl rfl (by kernel_rfl) (fun _ _ _ h => h) (Or.inl ⟨by rfl, ?_⟩) ?_ ?_
         rotate_left
         ·
          intro w'
          go_simp
          with_reducible rfl
         rotate_left
         ·
          simp only [Act.put, List.setIfInBounds_toArray, List.set_cons_zero, List.set_cons_succ, i64_w, i32_w]
          rfl
         refine pure_ (i := 14) (N := some 88) (v := ?_) (a' := ?_) #[true, true, true, true, true, true, true, true, true, true, true, true, true, true, true, false] rfl rfl (by kernel_rfl) (fun _ _ _ h => h) (Or.inl ⟨by rfl, ?_⟩) ?_ ?_
         rotate_left
         ·
          intro w'
          go_simp
          with_reducible rfl
         rotate_left
         ·
          simp only [Act.put, List.setIfInBounds_toArray, List.set_cons_zero, List.set_cons_succ, i64_w, i32_w]
          rfl
         refine pure_ (i := 15) (N := some 15) (v := ?_) (a' := ?_) #[true, true, true, true, true, true, true, true, true, true, true, true, true, true, true, true] rfl rfl (by kernel_rfl) (fun _ _ _ h => h) (Or.inl ⟨by rfl, ?_⟩) ?_ ?_
         rotate_left
         ·
          intro w'
          go_simp
          with_reducible rfl
         rotate_left
         ·
          simp only [Act.put, List.setIfInBounds_toArray, List.set_cons_zero, List.set_cons_succ, i64_w, i32_w]
          rfl
         refine done_ (by kernel_rfl) ?_
         rw [HSUM.out]
         have HKd := Aside0.mk HKb.out.drew
         have HId := Aside0.mk (HIb.out.below ((Below.refl _ _).drew))
         clear x0 y0 xs0 ys0 x0a y0a xsa ysa x0b y0b xsb ysb
         obtain ⟨ex, ey⟩ := FE.out _ HKd.out
         have hex : (wb.drew).cell? (edx.add p) = some (.bool (rdB (DL l0) (p : Int))) := EXQ.out _ HKd.out
         rw [HDXV.out] at hex
         go_wp2
         go_roundw
         case rel =>
          refine ⟨p + 1, tt + ((sx.size : Int) + (sy.size : Int)), ((b.onKeep (sx.size : Int)).onPut sy), m + (sx.size : Int) + (sy.size : Int), by omega, rfl, by go_num, HKd, HId, HG2, ⟨by have := HM.out; have := HNX.out; omega, by omega, by have := HM.out; omega⟩, ⟨?_⟩, ⟨?_⟩⟩
          ·
           have := HFO.out; rw [ro_round LDX.out LDY.out HLT.out, ← HSX.out, ← HSY.out, HDXV.out] at this; exact this
          ·
           have := HTO.out; rw [ro_to LDX.out LDY.out HLT.out, ← HSX.out, ← HSY.out, HDXV.out] at this; simp only [oneN, if_true] at this; omega
         case measure => simp [intOf]; omega
       | false =>
        have HDXV := Aside0.mk hdx
        clear hdx
        cases hdy : rdB (DL l1) (p : Int) with
        | true =>
         have HDYV := Aside0.mk hdy
         clear hdy
         cases a2 with
         | true =>
          go_wp2_with (first | (go_at_call 93; refine (rput_calls _ w.heap.size gb P (rbOf b) sy HI.out (by have := (HG.out).bi.put_le; have := HMM.out; have := HM.out; have := HNX.out; show b.put.size + sy.size ≤ _; omega)).mono ?_; rintro e wa ⟨rfl, hba, hka⟩; rw [rbOf_put] at hba; have HIa := Aside0.mk hba; have HKa := Aside0.mk (HK.out.trans hka (fun _ h _ => h)); clear hba hka; obtain ⟨x0a, y0a, xsa, ysa⟩ := FX.out _ HKa.out) | (go_at_call 94; refine (rkeep_calls _ w.heap.size gb P (rbOf (b.onPut sy)) (sx.size : Int) HIa.out (HBS.out _ HKa.out) (HPF.out _ HKa.out) (by have := (HG.out.put sy).bi.len; have := HMM.out; have := HM.out; have := HNX.out; show (b.onPut sy).out.length ≤ _; omega) ((HG.out.put sy).f1 (by have := HMM.out; have := HM.out; have := HNX.out; omega)) (by have := (HG.out.put sy).bi.drop_le; have := HMM.out; have := HM.out; have := HNX.out; show (b.onPut sy).drop ≤ _; omega) (by have := HMM.out; have := HM.out; have := HNX.out; omega) (by omega)).mono ?_; rintro e wb ⟨rfl, hbb, hkb⟩; rw [rbOf_keep (HG.out.put sy).bk.bw] at hbb; have HIb := Aside0.mk hbb; have HKb := Aside0.mk (HKa.out.trans hkb (fun _ h _ => h)); clear hbb hkb; obtain ⟨x0b, y0b, xsb, ysb⟩ := FX.out _ HKb.out))
          have HG2 := Aside0.mk (show BG ((b.onPut sy).onKeep (sx.size : Int)) (m + (sx.size : Int) + (sy.size : Int)) from HG.out.place (first := true) (s := sx) (t := sy))
          refine start_ (n := 16) (S := fun w' => w'.cell? ⟨gx, 0, none⟩ = some (.slice (some adx) (PL l0).length cX) ∧ w'.cell? ⟨gy, 0, none⟩ = some (.slice (some ady) (PL l1).length cY) ∧ w'.cell? (adx.add p) = some (.string sx) ∧ w'.cell? (ady.add p) = some (.string sy)) (ds := []) #[false, false, false, false, false, false, false, false, false, false, false, false, false, false, false, false] (by kernel_rfl) rfl rfl ⟨(FX.out _ HKb.out.drew).1, (FX.out _ HKb.out.drew).2.1, (FX.out _ HKb.out.drew).2.2.1, (FX.out _ HKb.out.drew).2.2.2⟩ (fun hHeld => ?_)
          refine pure_ (i := 0) (N := some 74) (v := ?_) (a' := ?_) #[true, false, false, false, false, false, false, false, false, false, false, false, false, false, false, false] rfl rfl (by kernel_rfl) (fun _ _ _ h => h) (Or.inl ⟨by rfl, ?_⟩) ?_ ?_
          rotate_left
          ·
           intro w'
           go_simp
           with_reducible rfl
          rotate_left
          ·
           simp only [Act.put, List.setIfInBounds_toArray, List.set_cons_zero, List.set_cons_succ, i64_w, i32_w]
           rfl
          refine pure_ (i := 1) (N := some 75) (v := ?_) (a' := ?_) #[true, true, false, false, false, false, false, false, false, false, false, false, false, false, false, false] rfl rfl (by kernel_rfl) (fun _ _ _ h => h) (Or.inl ⟨by rfl, ?_⟩) ?_ ?_
          rotate_left
          ·
           intro w'
           go_simp
           with_reducible rfl
          rotate_left
          ·
           simp only [Act.put, List.setIfInBounds_toArray, List.set_cons_zero, List.set_cons_succ, i64_w, i32_w]
           rfl
          refine pure_ (i := 3) (N := some 77) (v := ?_) (a' := ?_) #[true, true, false, true, false, false, false, false, false, false, false, false, false, false, false, false] rfl rfl (by kernel_rfl) (fun _ _ _ h => h) (Or.inl ⟨by rfl, ?_⟩) ?_ ?_
          rotate_left
          ·
           intro w'
           go_simp
           with_reducible rfl
          rotate_left
          ·
           simp only [Act.put, List.setIfInBounds_toArray, List.set_cons_zero, List.set_cons_succ, i64_w, i32_w]
           rfl
          refine pure_ (i := 7) (N := some 81) (v := ?_) (a' := ?_) #[true, true, false, true, false, false, false, true, false, false, false, false, false, false, false, false] rfl rfl (by kernel_rfl) (fun _ _ _ h => h) (Or.inl ⟨by rfl, ?_⟩) ?_ ?_
          rotate_left
          ·
           intro w'
           go_simp
           with_reducible rfl
          rotate_left
          ·
           simp only [Act.put, List.setIfInBounds_toArray, List.set_cons_zero, List.set_cons_succ, i64_w, i32_w]
           rfl
          refine pure_ (i := 9) (N := some 83) (v := ?_) (a' := ?_) #[true, true, false, true, false, false, false, true, false, true, false, false, false, false, false, false] rfl rfl (by kernel_rfl) (fun _ _ _ h => h) (Or.inl ⟨by rfl, ?_⟩) ?_ ?_
          rotate_left
          ·
           intro w'
           go_simp
           with_reducible rfl
          rotate_left
          ·
           simp only [Act.put, List.setIfInBounds_toArray, List.set_cons_zero, List.set_cons_succ, i64_w, i32_w]
           rfl
          refine take_ (i := 2) (N := some 76) (v := ?_) (a' := ?_) #[true, true, true, true, false, false, false, true, false, true, false, false, false, false, false, false] rfl rfl (by kernel_rfl) (fun _ _ _ h => h) (Or.inl ⟨by rfl, ?_⟩) hHeld ?_ ?_
          rotate_left
          ·
           rintro w' ⟨s0, s1, s2, s3⟩
           go_simp
           with_reducible rfl
          rotate_left
          ·
           simp only [Act.put, List.setIfInBounds_toArray, List.set_cons_zero, List.set_cons_succ, i64_w, i32_w]
           rfl
          refine pure_ (i := 4) (N := some 78) (v := ?_) (a' := ?_) #[true, true, true, true, true, false, false, true, false, true, false, false, false, false, false, false] rfl rfl (by kernel_rfl) (fun _ _ _ h => h) (Or.inl ⟨by rfl, ?_⟩) ?_ ?_
          rotate_left
          ·
           intro w'
           go_simp
           with_reducible rfl
          rotate_left
          ·
           simp only [Act.put, List.setIfInBounds_toArray, List.set_cons_zero, List.set_cons_succ, i64_w, i32_w]
           rfl
          refine take_ (i := 5) (N := some 79) (v := ?_) (a' := ?_) #[true, true, true, true, true, true, false, true, false, true, false, false, false, false, false, false] rfl rfl (by kernel_rfl) (fun _ _ _ h => h) (Or.inl ⟨by rfl, ?_⟩) hHeld ?_ ?_
          rotate_left
          ·
           rintro w' ⟨s0, s1, s2, s3⟩
           go_simp
           with_reducible rfl
          rotate_left
          ·
           simp only [Act.put, List.setIfInBounds_toArray, List.set_cons_zero, List.set_cons_succ, i64_w, i32_w]
           rfl
          refine pure_ (i := 6) (N := some 80) (v := ?_) (a' := ?_) #[true, true, true, true, true, true, true, true, false, true, false, false, false, false, false, false] rfl rfl (by kernel_rfl) (fun _ _ _ h => h) (Or.inl ⟨by rfl, ?_⟩) ?_ ?_
          rotate_left
          ·
           intro w'
           go_simp
           with_reducible rfl
          rotate_left
          ·
           simp only [Act.put, List.setIfInBounds_toArray, List.set_cons_zero, List.set_cons_succ, i64_w, i32_w]
           rfl
          refine take_ (i := 8) (N := some 82) (v := ?_) (a' := ?_) #[true, true, true, true, true, true, true, true, true, true, false, false, false, false, false, false] rfl rfl (by kernel_rfl) (fun _ _ _ h => h) (Or.inl ⟨by rfl, ?_⟩) hHeld ?_ ?_
          rotate_left
          ·
           rintro w' ⟨s0, s1, s2, s3⟩
           go_simp
           with_reducible rfl
          rotate_left
          ·
           simp only [Act.put, List.setIfInBounds_toArray, List.set_cons_zero, List.set_cons_succ, i64_w, i32_w]
           rfl
          refine pure_ (i := 10) (N := some 84) (v := ?_) (a' := ?_) #[true, true, true, true, true, true, true, true, true, true, true, false, false, false, false, false] rfl rfl (by kernel_rfl) (fun _ _ _ h => h) (Or.inl ⟨by rfl, ?_⟩) ?_ ?_
          rotate_left
          ·
           intro w'
           go_simp
           with_reducible rfl
          rotate_left
          ·
           simp only [Act.put, List.setIfInBounds_toArray, List.set_cons_zero, List.set_cons_succ, i64_w, i32_w]
           rfl
          refine take_ (i := 11) (N := some 85) (v := ?_) (a' := ?_) #[true, true, true, true, true, true, true, true, true, true, true, true, false, false, false, false] rfl rfl (by kernel_rfl) (fun _ _ _ h => h) (Or.inl ⟨by rfl, ?_⟩) hHeld ?_ ?_
          rotate_left
          ·
           rintro w' ⟨s0, s1, s2, s3⟩
           go_simp
           with_reducible rfl
          rotate_left
          ·
           simp only [Act.put, List.setIfInBounds_toArray, List.set_cons_zero, List.set_cons_succ, i64_w, i32_w]
           rfl
          refine pure_ (i := 12) (N := some 86) (v := ?_) (a' := ?_) #[true, true, true, true, true, true, true, true, true, true, true, true, true, false, false, false] rfl rfl (by kernel_rfl) (fun _ _ _ h => h) (Or.inl ⟨by rfl, ?_⟩) ?_ ?_
          rotate_left
          ·
           intro w'
           go_simp
           with_reducible rfl
          rotate_left
          ·
           simp only [Act.put, List.setIfInBounds_toArray, List.set_cons_zero, List.set_cons_succ, i64_w, i32_w]
           rfl
          refine pure_ (i := 13) (N := some 87) (v := ?_) (a' := ?_) #[true, true, true, true, true, true, true, true, true, true, true, true, true, true, false, false] rfl rfl (by kernel_rfl) (fun _ _ _ h => h) (Or.inl ⟨by rfl, ?_⟩) ?_ ?_
          rotate_left
          ·
           intro w'
           go_simp
           with_reducible rfl
          rotate_left
          ·
           simp only [Act.put, List.setIfInBounds_toArray, List.set_cons_zero, List.set_cons_succ, i64_w, i32_w]
           rfl
          refine pure_ (i := 14) (N := some 88) (v := ?_) (a' := ?_) #[true, true, true, true, true, true, true, true, true, true, true, true, true, true, true, false] rfl rfl (by kernel_rfl) (fun _ _ _ h => h) (Or.inl ⟨by rfl, ?_⟩) ?_ ?_
          rotate_left
          ·
           intro w'
           go_simp
           with_reducible rfl
          rotate_left
          ·
           simp only [Act.put, List.setIfInBounds_toArray, List.set_cons_zero, List.set_cons_succ, i64_w, i32_w]
           rfl
          refine pure_ (i := 15) (N := some 15) (v := ?_) (a' := ?_) #[true, true, true, true, true, true, true, true, true, true, true, true, true, true, true, true] rfl rfl (by kernel_rfl) (fun _ _ _ h => h) (Or.inl ⟨by rfl, ?_⟩) ?_ ?_
          rotate_left
          ·
           intro w'
           go_simp
           with_reducible rfl
          rotate_left
          ·
           simp only [Act.put, List.setIfInBounds_toArray, List.set_cons_zero, List.set_cons_succ, i64_w, i32_w]
           rfl
          refine done_ (by kernel_rfl) ?_
          rw [HSUM.out]
          have HKd := Aside0.mk HKb.out.drew
          have HId := Aside0.mk (HIb.out.below ((Below.refl _ _).drew))
          clear x0 y0 xs0 ys0 x0a y0a xsa ysa x0b y0b xsb ysb
          obtain ⟨ex, ey⟩ := FE.out _ HKd.out
          have hex : (wb.drew).cell? (edx.add p) = some (.bool (rdB (DL l0) (p : Int))) := EXQ.out _ HKd.out
          rw [HDXV.out] at hex
          have hey : (wb.drew).cell? (edy.add p) = some (.bool (rdB (DL l1) (p : Int))) := EYQ.out _ HKd.out
          rw [HDYV.out] at hey
          go_wp2_with ((go_at_call 95; refine (rdrop_calls _ w.heap.size gb P (rbOf ((b.onPut sy).onKeep (sx.size : Int))) 1 HId.out (HG2.out).bi.drop (by have := (HG2.out).bi.drop_le; have := HMM.out; have := HM.out; have := HNX.out; show ((b.onPut sy).onKeep (sx.size : Int)).drop ≤ _; omega) (by omega) (by omega)).mono ?_; rintro e wc ⟨rfl, hbc, hkc⟩; rw [rbOf_drop (by omega)] at hbc; have HIc := Aside0.mk hbc; have HKc := Aside0.mk (HKd.out.trans hkc (fun _ h _ => h)); clear hbc hkc))
          go_roundw
          case rel =>
           refine ⟨p + 1, tt + ((sx.size : Int) + (sy.size : Int)), (((b.onPut sy).onKeep (sx.size : Int)).onDrop 1), m + (sx.size : Int) + (sy.size : Int) + 1, by omega, rfl, by go_num, HKc, HIc, ⟨HG2.out.drop (n := 1) (by omega)⟩, ⟨by have := HM.out; have := HNX.out; omega, by omega, by have := HM.out; omega⟩, ⟨?_⟩, ⟨?_⟩⟩
           ·
            have := HFO.out; rw [ro_round LDX.out LDY.out HLT.out, ← HSX.out, ← HSY.out, HDXV.out, HDYV.out] at this; exact this
           ·
            have := HTO.out; rw [ro_to LDX.out LDY.out HLT.out, ← HSX.out, ← HSY.out, HDXV.out, HDYV.out] at this; simp only [oneN, if_true] at this; first | (simp at this; omega) | omega
          case measure => simp [intOf]; omega
         | false =>
          go_wp2_with (first | (go_at_call 94; refine (rkeep_calls _ w.heap.size gb P (rbOf b) (sx.size : Int) HI.out (HBS.out _ HK.out) (HPF.out _ HK.out) (by have := (HG.out).bi.len; have := HMM.out; have := HM.out; have := HNX.out; show b.out.length ≤ _; omega) ((HG.out).f1 (by have := HMM.out; have := HM.out; have := HNX.out; omega)) (by have := (HG.out).bi.drop_le; have := HMM.out; have := HM.out; have := HNX.out; show b.drop ≤ _; omega) (by have := HMM.out; have := HM.out; have := HNX.out; omega) (by omega)).mono ?_; rintro e wa ⟨rfl, hba, hka⟩; rw [rbOf_keep (HG.out).bk.bw] at hba; have HIa := Aside0.mk hba; have HKa := Aside0.mk (HK.out.trans hka (fun _ h _ => h)); clear hba hka; obtain ⟨x0a, y0a, xsa, ysa⟩ := FX.out _ HKa.out) | (go_at_call 93; refine (rput_calls _ w.heap.size gb P (rbOf (b.onKeep (sx.size : Int))) sy HIa.out (by have := (HG.out.keep (n := (sx.size : Int)) (by omega)).bi.put_le; have := HMM.out; have := HM.out; have := HNX.out; show (b.onKeep (sx.size : Int)).put.size + sy.size ≤ _; omega)).mono ?_; rintro e wb ⟨rfl, hbb, hkb⟩; rw [rbOf_put] at hbb; have HIb := Aside0.mk hbb; have HKb := Aside0.mk (HKa.out.trans hkb (fun _ h _ => h)); clear hbb hkb; obtain ⟨x0b, y0b, xsb, ysb⟩ := FX.out _ HKb.out))
          have HG2 := Aside0.mk (show BG ((b.onKeep (sx.size : Int)).onPut sy) (m + (sx.size : Int) + (sy.size : Int)) from HG.out.place (first := false) (s := sx) (t := sy))
          refine start_ (n := 16) (S := fun w' => w'.cell? ⟨gx, 0, none⟩ = some (.slice (some adx) (PL l0).length cX) ∧ w'.cell? ⟨gy, 0, none⟩ = some (.slice (some ady) (PL l1).length cY) ∧ w'.cell? (adx.add p) = some (.string sx) ∧ w'.cell? (ady.add p) = some (.string sy)) (ds := []) #[false, false, false, false, false, false, false, false, false, false, false, false, false, false, false, false] (by kernel_rfl) rfl rfl ⟨(FX.out _ HKb.out.drew).1, (FX.out _ HKb.out.drew).2.1, (FX.out _ HKb.out.drew).2.2.1, (FX.out _ HKb.out.drew).2.2.2⟩ (fun hHeld => ?_)
          refine pure_ (i := 0) (N := some 74) (v := ?_) (a' := ?_) #[true, false, false, false, false, false, false, false, false, false, false, false, false, false, false, false] rfl rfl (by kernel_rfl) (fun _ _ _ h => h) (Or.inl ⟨by rfl, ?_⟩) ?_ ?_
          rotate_left
          ·
           intro w'
           go_simp
           with_reducible rfl
          rotate_left
          ·
           simp only [Act.put, List.setIfInBounds_toArray, List.set_cons_zero, List.set_cons_succ, i64_w, i32_w]
           rfl
          refine pure_ (i := 1) (N := some 75) (v := ?_) (a' := ?_) #[true, true, false, false, false, false, false, false, false, false, false, false, false, false, false, false] rfl rfl (by kernel_rfl) (fun _ _ _ h => h) (Or.inl ⟨by rfl, ?_⟩) ?_ ?_
          rotate_left
          ·
           intro w'
           go_simp
           with_reducible rfl
          rotate_left
          ·
           simp only [Act.put, List.setIfInBounds_toArray, List.set_cons_zero, List.set_cons_succ, i64_w, i32_w]
           rfl
          refine pure_ (i := 3) (N := some 77) (v := ?_) (a' := ?_) #[true, true, false, true, false, false, false, false, false, false, false, false, false, false, false, false] rfl rfl (by kernel_rfl) (fun _ _ _ h => h) (Or.inl ⟨by rfl, ?_⟩) ?_ ?_
          rotate_left
          ·
           intro w'
           go_simp
           with_reducible rfl
          rotate_left
          ·
           simp only [Act.put, List.setIfInBounds_toArray, List.set_cons_zero, List.set_cons_succ, i64_w, i32_w]
           rfl
          refine pure_ (i := 7) (N := some 81) (v := ?_) (a' := ?_) #[true, true, false, true, false, false, false, true, false, false, false, false, false, false, false, false] rfl rfl (by kernel_rfl) (fun _ _ _ h => h) (Or.inl ⟨by rfl, ?_⟩) ?_ ?_
          rotate_left
          ·
           intro w'
           go_simp
           with_reducible rfl
          rotate_left
          ·
           simp only [Act.put, List.setIfInBounds_toArray, List.set_cons_zero, List.set_cons_succ, i64_w, i32_w]
           rfl
          refine pure_ (i := 9) (N := some 83) (v := ?_) (a' := ?_) #[true, true, false, true, false, false, false, true, false, true, false, false, false, false, false, false] rfl rfl (by kernel_rfl) (fun _ _ _ h => h) (Or.inl ⟨by rfl, ?_⟩) ?_ ?_
          rotate_left
          ·
           intro w'
           go_simp
           with_reducible rfl
          rotate_left
          ·
           simp only [Act.put, List.setIfInBounds_toArray, List.set_cons_zero, List.set_cons_succ, i64_w, i32_w]
           rfl
          refine take_ (i := 2) (N := some 76) (v := ?_) (a' := ?_) #[true, true, true, true, false, false, false, true, false, true, false, false, false, false, false, false] rfl rfl (by kernel_rfl) (fun _ _ _ h => h) (Or.inl ⟨by rfl, ?_⟩) hHeld ?_ ?_
          rotate_left
          ·
           rintro w' ⟨s0, s1, s2, s3⟩
           go_simp
           with_reducible rfl
          rotate_left
          ·
           simp only [Act.put, List.setIfInBounds_toArray, List.set_cons_zero, List.set_cons_succ, i64_w, i32_w]
           rfl
          refine pure_ (i := 4) (N := some 78) (v := ?_) (a' := ?_) #[true, true, true, true, true, false, false, true, false, true, false, false, false, false, false, false] rfl rfl (by kernel_rfl) (fun _ _ _ h => h) (Or.inl ⟨by rfl, ?_⟩) ?_ ?_
          rotate_left
          ·
           intro w'
           go_simp
           with_reducible rfl
          rotate_left
          ·
           simp only [Act.put, List.setIfInBounds_toArray, List.set_cons_zero, List.set_cons_succ, i64_w, i32_w]
           rfl
          refine take_ (i := 5) (N := some 79) (v := ?_) (a' := ?_) #[true, true, true, true, true, true, false, true, false, true, false, false, false, false, false, false] rfl rfl (by kernel_rfl) (fun _ _ _ h => h) (Or.inl ⟨by rfl, ?_⟩) hHeld ?_ ?_
          rotate_left
          ·
           rintro w' ⟨s0, s1, s2, s3⟩
           go_simp
           with_reducible rfl
          rotate_left
          ·
           simp only [Act.put, List.setIfInBounds_toArray, List.set_cons_zero, List.set_cons_succ, i64_w, i32_w]
           rfl
          refine pure_ (i := 6) (N := some 80) (v := ?_) (a' := ?_) #[true, true, true, true, true, true, true, true, false, true, false, false, false, false, false, false] rfl rfl (by kernel_rfl) (fun _ _ _ h => h) (Or.inl ⟨by rfl, ?_⟩) ?_ ?_
          rotate_left
          ·
           intro w'
           go_simp
           with_reducible rfl
          rotate_left
          ·
           simp only [Act.put, List.setIfInBounds_toArray, List.set_cons_zero, List.set_cons_succ, i64_w, i32_w]
           rfl
          refine take_ (i := 8) (N := some 82) (v := ?_) (a' := ?_) #[true, true, true, true, true, true, true, true, true, true, false, false, false, false, false, false] rfl rfl (by kernel_rfl) (fun _ _ _ h => h) (Or.inl ⟨by rfl, ?_⟩) hHeld ?_ ?_
          rotate_left
          ·
           rintro w' ⟨s0, s1, s2, s3⟩
           go_simp
           with_reducible rfl
          rotate_left
          ·
           simp only [Act.put, List.setIfInBounds_toArray, List.set_cons_zero, List.set_cons_succ, i64_w, i32_w]
           rfl
          refine pure_ (i := 10) (N := some 84) (v := ?_) (a' := ?_) #[true, true, true, true, true, true, true, true, true, true, true, false, false, false, false, false] rfl rfl (by kernel_rfl) (fun _ _ _ h => h) (Or.inl ⟨by rfl, ?_⟩) ?_ ?_
          rotate_left
          ·
           intro w'
           go_simp
           with_reducible rfl
          rotate_left
          ·
           simp only [Act.put, List.setIfInBounds_toArray, List.set_cons_zero, List.set_cons_succ, i64_w, i32_w]
           rfl
          refine take_ (i := 11) (N := some 85) (v := ?_) (a' := ?_) #[true, true, true, true, true, true, true, true, true, true, true, true, false, false, false, false] rfl rfl (by kernel_rfl) (fun _ _ _ h => h) (Or.inl ⟨by rfl, ?_⟩) hHeld ?_ ?_
          rotate_left
          ·
           rintro w' ⟨s0, s1, s2, s3⟩
           go_simp
           with_reducible rfl
          rotate_left
          ·
           simp only [Act.put, List.setIfInBounds_toArray, List.set_cons_zero, List.set_cons_succ, i64_w, i32_w]
           rfl
          refine pure_ (i := 12) (N := some 86) (v := ?_) (a' := ?_) #[true, true, true, true, true, true, true, true, true, true, true, true, true, false, false, false] rfl rfl (by kernel_rfl) (fun _ _ _ h => h) (Or.inl ⟨by rfl, ?_⟩) ?_ ?_
          rotate_left
          ·
           intro w'
           go_simp
           with_reducible rfl
          rotate_left
          ·
           simp only [Act.put, List.setIfInBounds_toArray, List.set_cons_zero, List.set_cons_succ, i64_w, i32_w]
           rfl
          refine pure_ (i := 13) (N := some 87) (v := ?_) (a' := ?_) #[true, true, true, true, true, true, true, true, true, true, true, true, true, true, false, false] rfl rfl (by kernel_rfl) (fun _ _ _ h => h) (Or.inl ⟨by rfl, ?_⟩) ?_ ?_
          rotate_left
          ·
           intro w'
           go_simp
           with_reducible rfl
          rotate_left
          ·
           simp only [Act.put, List.setIfInBounds_toArray, List.set_cons_zero, List.set_cons_succ, i64_w, i32_w]
           rfl
          refine pure_ (i := 14) (N := some 88) (v := ?_) (a' := ?_) #[true, true, true, true, true, true, true, true, true, true, true, true, true, true, true, false] rfl rfl (by kernel_rfl) (fun _ _ _ h => h) (Or.inl ⟨by rfl, ?_⟩) ?_ ?_
          rotate_left
          ·
           intro w'
           go_simp
           with_reducible rfl
          rotate_left
          ·
           simp only [Act.put, List.setIfInBounds_toArray, List.set_cons_zero, List.set_cons_succ, i64_w, i32_w]
           rfl
          refine pure_ (i := 15) (N := some 15) (v := ?_) (a' := ?_) #[true, true, true, true, true, true, true, true, true, true, true, true, true, true, true, true] rfl rfl (by kernel_rfl) (fun _ _ _ h => h) (Or.inl ⟨by rfl, ?_⟩) ?_ ?_
          rotate_left
          ·
           intro w'
           go_simp
           with_reducible rfl
          rotate_left
          ·
           simp only [Act.put, List.setIfInBounds_toArray, List.set_cons_zero, List.set_cons_succ, i64_w, i32_w]
           rfl
          refine done_ (by kernel_rfl) ?_
          rw [HSUM.out]
          have HKd := Aside0.mk HKb.out.drew
          have HId := Aside0.mk (HIb.out.below ((Below.refl _ _).drew))
          clear x0 y0 xs0 ys0 x0a y0a xsa ysa x0b y0b xsb ysb
          obtain ⟨ex, ey⟩ := FE.out _ HKd.out
          have hex : (wb.drew).cell? (edx.add p) = some (.bool (rdB (DL l0) (p : Int))) := EXQ.out _ HKd.out
          rw [HDXV.out] at hex
          have hey : (wb.drew).cell? (edy.add p) = some (.bool (rdB (DL l1) (p : Int))) := EYQ.out _ HKd.out
          rw [HDYV.out] at hey
          go_wp2_with ((go_at_call 95; refine (rdrop_calls _ w.heap.size gb P (rbOf ((b.onKeep (sx.size : Int)).onPut sy)) 1 HId.out (HG2.out).bi.drop (by have := (HG2.out).bi.drop_le; have := HMM.out; have := HM.out; have := HNX.out; show ((b.onKeep (sx.size : Int)).onPut sy).drop ≤ _; omega) (by omega) (by omega)).mono ?_; rintro e wc ⟨rfl, hbc, hkc⟩; rw [rbOf_drop (by omega)] at hbc; have HIc := Aside0.mk hbc; have HKc := Aside0.mk (HKd.out.trans hkc (fun _ h _ => h)); clear hbc hkc))
          go_roundw
          case rel =>
           refine ⟨p + 1, tt + ((sx.size : Int) + (sy.size : Int)), (((b.onKeep (sx.size : Int)).onPut sy).onDrop 1), m + (sx.size : Int) + (sy.size : Int) + 1, by omega, rfl, by go_num, HKc, HIc, ⟨HG2.out.drop (n := 1) (by omega)⟩, ⟨by have := HM.out; have := HNX.out; omega, by omega, by have := HM.out; omega⟩, ⟨?_⟩, ⟨?_⟩⟩
           ·
            have := HFO.out; rw [ro_round LDX.out LDY.out HLT.out, ← HSX.out, ← HSY.out, HDXV.out, HDYV.out] at this; exact this
           ·
            have := HTO.out; rw [ro_to LDX.out LDY.out HLT.out, ← HSX.out, ← HSY.out, HDXV.out, HDYV.out] at this; simp only [oneN, if_true] at this; first | (simp at this; omega) | omega
          case measure => simp [intOf]; omega
        | false =>
         have HDYV := Aside0.mk hdy
         clear hdy
         cases a2 with
         | true =>
          go_wp2_with (first | (go_at_call 93; refine (rput_calls _ w.heap.size gb P (rbOf b) sy HI.out (by have := (HG.out).bi.put_le; have := HMM.out; have := HM.out; have := HNX.out; show b.put.size + sy.size ≤ _; omega)).mono ?_; rintro e wa ⟨rfl, hba, hka⟩; rw [rbOf_put] at hba; have HIa := Aside0.mk hba; have HKa := Aside0.mk (HK.out.trans hka (fun _ h _ => h)); clear hba hka; obtain ⟨x0a, y0a, xsa, ysa⟩ := FX.out _ HKa.out) | (go_at_call 94; refine (rkeep_calls _ w.heap.size gb P (rbOf (b.onPut sy)) (sx.size : Int) HIa.out (HBS.out _ HKa.out) (HPF.out _ HKa.out) (by have := (HG.out.put sy).bi.len; have := HMM.out; have := HM.out; have := HNX.out; show (b.onPut sy).out.length ≤ _; omega) ((HG.out.put sy).f1 (by have := HMM.out; have := HM.out; have := HNX.out; omega)) (by have := (HG.out.put sy).bi.drop_le; have := HMM.out; have := HM.out; have := HNX.out; show (b.onPut sy).drop ≤ _; omega) (by have := HMM.out; have := HM.out; have := HNX.out; omega) (by omega)).mono ?_; rintro e wb ⟨rfl, hbb, hkb⟩; rw [rbOf_keep (HG.out.put sy).bk.bw] at hbb; have HIb := Aside0.mk hbb; have HKb := Aside0.mk (HKa.out.trans hkb (fun _ h _ => h)); clear hbb hkb; obtain ⟨x0b, y0b, xsb, ysb⟩ := FX.out _ HKb.out))
          have HG2 := Aside0.mk (show BG ((b.onPut sy).onKeep (sx.size : Int)) (m + (sx.size : Int) + (sy.size : Int)) from HG.out.place (first := true) (s := sx) (t := sy))
          refine start_ (n := 16) (S := fun w' => w'.cell? ⟨gx, 0, none⟩ = some (.slice (some adx) (PL l0).length cX) ∧ w'.cell? ⟨gy, 0, none⟩ = some (.slice (some ady) (PL l1).length cY) ∧ w'.cell? (adx.add p) = some (.string sx) ∧ w'.cell? (ady.add p) = some (.string sy)) (ds := []) #[false, false, false, false, false, false, false, false, false, false, false, false, false, false, false, false] (by kernel_rfl) rfl rfl ⟨(FX.out _ HKb.out.drew).1, (FX.out _ HKb.out.drew).2.1, (FX.out _ HKb.out.drew).2.2.1, (FX.out _ HKb.out.drew).2.2.2⟩ (fun hHeld => ?_)
          refine pure_ (i := 0) (N := some 74) (v := ?_) (a' := ?_) #[true, false, false, false, false, false, false, false, false, false, false, false, false, false, false, false] rfl rfl (by kernel_rfl) (fun _ _ _ h => h) (Or.inl ⟨by rfl, ?_⟩) ?_ ?_
          rotate_left
          ·
           intro w'
           go_simp
           with_reducible rfl
          rotate_left
          ·
           simp only [Act.put, List.setIfInBounds_toArray, List.set_cons_zero, List.set_cons_succ, i64_w, i32_w]
           rfl
          refine pure_ (i := 1) (N := some 75) (v := ?_) (a' := ?_) #[true, true, false, false, false, false, false, false, false, false, false, false, false, false, false, false] rfl rfl (by kernel_rfl) (fun _ _ _ h => h) (Or.inl ⟨by rfl, ?_⟩) ?_ ?_
          rotate_left
          ·
           intro w'
           go_simp
           with_reducible rfl
          rotate_left
          ·
           simp only [Act.put, List.setIfInBounds_toArray, List.set_cons_zero, List.set_cons_succ, i64_w, i32_w]
           rfl
          refine pure_ (i := 3) (N := some 77) (v := ?_) (a' := ?_) #[true, true, false, true, false, false, false, false, false, false, false, false, false, false, false, false] rfl rfl (by kernel_rfl) (fun _ _ _ h => h) (Or.inl ⟨by rfl, ?_⟩) ?_ ?_
          rotate_left
          ·
           intro w'
           go_simp
           with_reducible rfl
          rotate_left
          ·
           simp only [Act.put, List.setIfInBounds_toArray, List.set_cons_zero, List.set_cons_succ, i64_w, i32_w]
           rfl
          refine pure_ (i := 7) (N := some 81) (v := ?_) (a' := ?_) #[true, true, false, true, false, false, false, true, false, false, false, false, false, false, false, false] rfl rfl (by kernel_rfl) (fun _ _ _ h => h) (Or.inl ⟨by rfl, ?_⟩) ?_ ?_
          rotate_left
          ·
           intro w'
           go_simp
           with_reducible rfl
          rotate_left
          ·
           simp only [Act.put, List.setIfInBounds_toArray, List.set_cons_zero, List.set_cons_succ, i64_w, i32_w]
           rfl
          refine pure_ (i := 9) (N := some 83) (v := ?_) (a' := ?_) #[true, true, false, true, false, false, false, true, false, true, false, false, false, false, false, false] rfl rfl (by kernel_rfl) (fun _ _ _ h => h) (Or.inl ⟨by rfl, ?_⟩) ?_ ?_
          rotate_left
          ·
           intro w'
           go_simp
           with_reducible rfl
          rotate_left
          ·
           simp only [Act.put, List.setIfInBounds_toArray, List.set_cons_zero, List.set_cons_succ, i64_w, i32_w]
           rfl
          refine take_ (i := 2) (N := some 76) (v := ?_) (a' := ?_) #[true, true, true, true, false, false, false, true, false, true, false, false, false, false, false, false] rfl rfl (by kernel_rfl) (fun _ _ _ h => h) (Or.inl ⟨by rfl, ?_⟩) hHeld ?_ ?_
          rotate_left
          ·
           rintro w' ⟨s0, s1, s2, s3⟩
           go_simp
           with_reducible rfl
          rotate_left
          ·
           simp only [Act.put, List.setIfInBounds_toArray, List.set_cons_zero, List.set_cons_succ, i64_w, i32_w]
           rfl
          refine pure_ (i := 4) (N := some 78) (v := ?_) (a' := ?_) #[true, true, true, true, true, false, false, true, false, true, false, false, false, false, false, false] rfl rfl (by kernel_rfl) (fun _ _ _ h => h) (Or.inl ⟨by rfl, ?_⟩) ?_ ?_
          rotate_left
          ·
           intro w'
           go_simp
           with_reducible rfl
          rotate_left
          ·
           simp only [Act.put, List.setIfInBounds_toArray, List.set_cons_zero, List.set_cons_succ, i64_w, i32_w]
           rfl
          refine take_ (i := 5) (N := some 79) (v := ?_) (a' := ?_) #[true, true, true, true, true, true, false, true, false, true, false, false, false, false, false, false] rfl rfl (by kernel_rfl) (fun _ _ _ h => h) (Or.inl ⟨by rfl, ?_⟩) hHeld ?_ ?_
          rotate_left
          ·
           rintro w' ⟨s0, s1, s2, s3⟩
           go_simp
           with_reducible rfl
          rotate_left
          ·
           simp only [Act.put, List.setIfInBounds_toArray, List.set_cons_zero, List.set_cons_succ, i64_w, i32_w]
           rfl
          refine pure_ (i := 6) (N := some 80) (v := ?_) (a' := ?_) #[true, true, true, true, true, true, true, true, false, true, false, false, false, false, false, false] rfl rfl (by kernel_rfl) (fun _ _ _ h => h) (Or.inl ⟨by rfl, ?_⟩) ?_ ?_
          rotate_left
          ·
           intro w'
           go_simp
           with_reducible rfl
          rotate_left
          ·
           simp only [Act.put, List.setIfInBounds_toArray, List.set_cons_zero, List.set_cons_succ, i64_w, i32_w]
           rfl
          refine take_ (i := 8) (N := some 82) (v := ?_) (a' := ?_) #[true, true, true, true, true, true, true, true, true, true, false, false, false, false, false, false] rfl rfl (by kernel_rfl) (fun _ _ _ h => h) (Or.inl ⟨by rfl, ?_⟩) hHeld ?_ ?_
          rotate_left
          ·
           rintro w' ⟨s0, s1, s2, s3⟩
           go_simp
           with_reducible rfl
          rotate_left
          ·
           simp only [Act.put, List.setIfInBounds_toArray, List.set_cons_zero, List.set_cons_succ, i64_w, i32_w]
           rfl
          refine pure_ (i := 10) (N := some 84) (v := ?_) (a' := ?_) #[true, true, true, true, true, true, true, true, true, true, true, false, false, false, false, false] rfl rfl (by kernel_rfl) (fun _ _ _ h => h) (Or.inl ⟨by rfl, ?_⟩) ?_ ?_
          rotate_left
          ·
           intro w'
           go_simp
           with_reducible rfl
          rotate_left
          ·
           simp only [Act.put, List.setIfInBounds_toArray, List.set_cons_zero, List.set_cons_succ, i64_w, i32_w]
           rfl
          refine take_ (i := 11) (N := some 85) (v := ?_) (a' := ?_) #[true, true, true, true, true, true, true, true, true, true, true, true, false, false, false, false] rfl rfl (by kernel_rfl) (fun _ _ _ h => h) (Or.inl ⟨by rfl, ?_⟩) hHeld ?_ ?_
          rotate_left
          ·
           rintro w' ⟨s0, s1, s2, s3⟩
           go_simp
           with_reducible rfl
          rotate_left
          ·
           simp only [Act.put, List.setIfInBounds_toArray, List.set_cons_zero, List.set_cons_succ, i64_w, i32_w]
           rfl
          refine pure_ (i := 12) (N := some 86) (v := ?_) (a' := ?_) #[true, true, true, true, true, true, true, true, true, true, true, true, true, false, false, false] rfl rfl (by kernel_rfl) (fun _ _ _ h => h) (Or.inl ⟨by rfl, ?_⟩) ?_ ?_
          rotate_left
          ·
           intro w'
           go_simp
           with_reducible rfl
          rotate_left
          ·
           simp only [Act.put, List.setIfInBounds_toArray, List.set_cons_zero, List.set_cons_succ, i64_w, i32_w]
           rfl
          refine pure_ (i := 13) (N := some 87) (v := ?_) (a' := ?_) #[true, true, true, true, true, true, true, true, true, true, true, true, true, true, false, false] rfl rfl (by kernel_rfl) (fun _ _ _ h => h) (Or.inl ⟨by rfl, ?_⟩) ?_ ?_
          rotate_left
          ·
           intro w'
           go_simp
           with_reducible rfl
          rotate_left
          ·
           simp only [Act.put, List.setIfInBounds_toArray, List.set_cons_zero, List.set_cons_succ, i64_w, i32_w]
           rfl
          refine pure_ (i := 14) (N := some 88) (v := ?_) (a' := ?_) #[true, true, true, true, true, true, true, true, true, true, true, true, true, true, true, false] rfl rfl (by kernel_rfl) (fun _ _ _ h => h) (Or.inl ⟨by rfl, ?_⟩) ?_ ?_
          rotate_left
          ·
           intro w'
           go_simp
           with_reducible rfl
          rotate_left
          ·
           simp only [Act.put, List.setIfInBounds_toArray, List.set_cons_zero, List.set_cons_succ, i64_w, i32_w]
           rfl
          refine pure_ (i := 15) (N := some 15) (v := ?_) (a' := ?_) #[true, true, true, true, true, true, true, true, true, true, true, true, true, true, true, true] rfl rfl (by kernel_rfl) (fun _ _ _ h => h) (Or.inl ⟨by rfl, ?_⟩) ?_ ?_
          rotate_left
          ·
           intro w'
           go_simp
           with_reducible rfl
          rotate_left
          ·
           simp only [Act.put, List.setIfInBounds_toArray, List.set_cons_zero, List.set_cons_succ, i64_w, i32_w]
           rfl
          refine done_ (by kernel_rfl) ?_
          rw [HSUM.out]
          have HKd := Aside0.mk HKb.out.drew
          have HId := Aside0.mk (HIb.out.below ((Below.refl _ _).drew))
          clear x0 y0 xs0 ys0 x0a y0a xsa ysa x0b y0b xsb ysb
          obtain ⟨ex, ey⟩ := FE.out _ HKd.out
          have hex : (wb.drew).cell? (edx.add p) = some (.bool (rdB (DL l0) (p : Int))) := EXQ.out _ HKd.out
          rw [HDXV.out] at hex
          have hey : (wb.drew).cell? (edy.add p) = some (.bool (rdB (DL l1) (p : Int))) := EYQ.out _ HKd.out
          rw [HDYV.out] at hey
          have hadd : wrap64 (tt + ((sx.size : Int) + (sy.size : Int)) + 1) = tt + ((sx.size : Int) + (sy.size : Int)) + 1 := by have := HM.out; have := HMM.out; have := HNX.out; unfold wrap64; omega
          have hb0 : 0 ≤ tt + ((sx.size : Int) + (sy.size : Int)) := by omega
          have hb1 : tt + ((sx.size : Int) + (sy.size : Int)) ≤ 2700000000 := by omega
          go_wp2_with ((go_at_call 94; refine (rkeep_calls _ w.heap.size gb P (rbOf ((b.onPut sy).onKeep (sx.size : Int))) 1 HId.out (HBS.out _ HKd.out) (HPF.out _ HKd.out) (by have := (HG2.out).bi.len; have := HMM.out; have := HM.out; have := HNX.out; show ((b.onPut sy).onKeep (sx.size : Int)).out.length ≤ _; omega) ((HG2.out).f1 (by have := HMM.out; have := HM.out; have := HNX.out; omega)) (by have := (HG2.out).bi.drop_le; have := HMM.out; have := HM.out; have := HNX.out; show ((b.onPut sy).onKeep (sx.size : Int)).drop ≤ _; omega) (by omega) (by omega)).mono ?_; rintro e wc ⟨rfl, hbc, hkc⟩; rw [rbOf_keep (HG2.out).bk.bw] at hbc; have HIc := Aside0.mk hbc; have HKc := Aside0.mk (HKd.out.trans hkc (fun _ h _ => h)); clear hbc hkc))
          go_roundw
          case rel =>
           refine ⟨p + 1, tt + ((sx.size : Int) + (sy.size : Int)) + 1, (((b.onPut sy).onKeep (sx.size : Int)).onKeep 1), m + (sx.size : Int) + (sy.size : Int) + 1, by omega, by go_num, by go_num, HKc, HIc, ⟨HG2.out.keep (n := 1) (by omega)⟩, ⟨by have := HM.out; have := HNX.out; omega, by omega, by have := HM.out; omega⟩, ⟨?_⟩, ⟨?_⟩⟩
           ·
            have := HFO.out; rw [ro_round LDX.out LDY.out HLT.out, ← HSX.out, ← HSY.out, HDXV.out, HDYV.out] at this; exact this
           ·
            have := HTO.out; rw [ro_to LDX.out LDY.out HLT.out, ← HSX.out, ← HSY.out, HDXV.out, HDYV.out] at this; simp only [oneN, if_true] at this; first | (simp at this; omega) | omega
          case measure => simp [intOf]; omega
         | false =>
          go_wp2_with (first | (go_at_call 94; refine (rkeep_calls _ w.heap.size gb P (rbOf b) (sx.size : Int) HI.out (HBS.out _ HK.out) (HPF.out _ HK.out) (by have := (HG.out).bi.len; have := HMM.out; have := HM.out; have := HNX.out; show b.out.length ≤ _; omega) ((HG.out).f1 (by have := HMM.out; have := HM.out; have := HNX.out; omega)) (by have := (HG.out).bi.drop_le; have := HMM.out; have := HM.out; have := HNX.out; show b.drop ≤ _; omega) (by have := HMM.out; have := HM.out; have := HNX.out; omega) (by omega)).mono ?_; rintro e wa ⟨rfl, hba, hka⟩; rw [rbOf_keep (HG.out).bk.bw] at hba; have HIa := Aside0.mk hba; have HKa := Aside0.mk (HK.out.trans hka (fun _ h _ => h)); clear hba hka; obtain ⟨x0a, y0a, xsa, ysa⟩ := FX.out _ HKa.out) | (go_at_call 93; refine (rput_calls _ w.heap.size gb P (rbOf (b.onKeep (sx.size : Int))) sy HIa.out (by have := (HG.out.keep (n := (sx.size : Int)) (by omega)).bi.put_le; have := HMM.out; have := HM.out; have := HNX.out; show (b.onKeep (sx.size : Int)).put.size + sy.size ≤ _; omega)).mono ?_; rintro e wb ⟨rfl, hbb, hkb⟩; rw [rbOf_put] at hbb; have HIb := Aside0.mk hbb; have HKb := Aside0.mk (HKa.out.trans hkb (fun _ h _ => h)); clear hbb hkb; obtain ⟨x0b, y0b, xsb, ysb⟩ := FX.out _ HKb.out))
          have HG2 := Aside0.mk (show BG ((b.onKeep (sx.size : Int)).onPut sy) (m + (sx.size : Int) + (sy.size : Int)) from HG.out.place (first := false) (s := sx) (t := sy))
          refine start_ (n := 16) (S := fun w' => w'.cell? ⟨gx, 0, none⟩ = some (.slice (some adx) (PL l0).length cX) ∧ w'.cell? ⟨gy, 0, none⟩ = some (.slice (some ady) (PL l1).length cY) ∧ w'.cell? (adx.add p) = some (.string sx) ∧ w'.cell? (ady.add p) = some (.string sy)) (ds := []) #[false, false, false, false, false, false, false, false, false, false, false, false, false, false, false, false] (by kernel_rfl) rfl rfl ⟨(FX.out _ HKb.out.drew).1, (FX.out _ HKb.out.drew).2.1, (FX.out _ HKb.out.drew).2.2.1, (FX.out _ HKb.out.drew).2.2.2⟩ (fun hHeld => ?_)
          refine pure_ (i := 0) (N := some 74) (v := ?_) (a' := ?_) #[true, false, false, false, false, false, false, false, false, false, false, false, false, false, false, false] rfl rfl (by kernel_rfl) (fun _ _ _ h => h) (Or.inl ⟨by rfl, ?_⟩) ?_ ?_
          rotate_left
          ·
           intro w'
           go_simp
           with_reducible rfl
          rotate_left
          ·
           simp only [Act.put, List.setIfInBounds_toArray, List.set_cons_zero, List.set_cons_succ, i64_w, i32_w]
           rfl
          refine pure_ (i := 1) (N := some 75) (v := ?_) (a' := ?_) #[true, true, false, false, false, false, false, false, false, false, false, false, false, false, false, false] rfl rfl (by kernel_rfl) (fun _ _ _ h => h) (Or.inl ⟨by rfl, ?_⟩) ?_ ?_
          rotate_left
          ·
           intro w'
           go_simp
           with_reducible rfl
          rotate_left
          ·
           simp only [Act.put, List.setIfInBounds_toArray, List.set_cons_zero, List.set_cons_succ, i64_w, i32_w]
           rfl
          refine pure_ (i := 3) (N := some 77) (v := ?_) (a' := ?_) #[true, true, false, true, false, false, false, false, false, false, false, false, false, false, false, false] rfl rfl (by kernel_rfl) (fun _ _ _ h => h) (Or.inl ⟨by rfl, ?_⟩) ?_ ?_
          rotate_left
          ·
           intro w'
           go_simp
           with_reducible rfl
          rotate_left
          ·
           simp only [Act.put, List.setIfInBounds_toArray, List.set_cons_zero, List.set_cons_succ, i64_w, i32_w]
           rfl
          refine pure_ (i := 7) (N := some 81) (v := ?_) (a' := ?_) #[true, true, false, true, false, false, false, true, false, false, false, false, false, false, false, false] rfl rfl (by kernel_rfl) (fun _ _ _ h => h) (Or.inl ⟨by rfl, ?_⟩) ?_ ?_
          rotate_left
          ·
           intro w'
           go_simp
           with_reducible rfl
          rotate_left
          ·
           simp only [Act.put, List.setIfInBounds_toArray, List.set_cons_zero, List.set_cons_succ, i64_w, i32_w]
           rfl
          refine pure_ (i := 9) (N := some 83) (v := ?_) (a' := ?_) #[true, true, false, true, false, false, false, true, false, true, false, false, false, false, false, false] rfl rfl (by kernel_rfl) (fun _ _ _ h => h) (Or.inl ⟨by rfl, ?_⟩) ?_ ?_
          rotate_left
          ·
           intro w'
           go_simp
           with_reducible rfl
          rotate_left
          ·
           simp only [Act.put, List.setIfInBounds_toArray, List.set_cons_zero, List.set_cons_succ, i64_w, i32_w]
           rfl
          refine take_ (i := 2) (N := some 76) (v := ?_) (a' := ?_) #[true, true, true, true, false, false, false, true, false, true, false, false, false, false, false, false] rfl rfl (by kernel_rfl) (fun _ _ _ h => h) (Or.inl ⟨by rfl, ?_⟩) hHeld ?_ ?_
          rotate_left
          ·
           rintro w' ⟨s0, s1, s2, s3⟩
           go_simp
           with_reducible rfl
          rotate_left
          ·
           simp only [Act.put, List.setIfInBounds_toArray, List.set_cons_zero, List.set_cons_succ, i64_w, i32_w]
           rfl
          refine pure_ (i := 4) (N := some 78) (v := ?_) (a' := ?_) #[true, true, true, true, true, false, false, true, false, true, false, false, false, false, false, false] rfl rfl (by kernel_rfl) (fun _ _ _ h => h) (Or.inl ⟨by rfl, ?_⟩) ?_ ?_
          rotate_left
          ·
           intro w'
           go_simp
           with_reducible rfl
          rotate_left
          ·
           simp only [Act.put, List.setIfInBounds_toArray, List.set_cons_zero, List.set_cons_succ, i64_w, i32_w]
           rfl
          refine take_ (i := 5) (N := some 79) (v := ?_) (a' := ?_) #[true, true, true, true, true, true, false, true, false, true, false, false, false, false, false, false] rfl rfl (by kernel_rfl) (fun _ _ _ h => h) (Or.inl ⟨by rfl, ?_⟩) hHeld ?_ ?_
          rotate_left
          ·
           rintro w' ⟨s0, s1, s2, s3⟩
           go_simp
           with_reducible rfl
          rotate_left
          ·
           simp only [Act.put, List.setIfInBounds_toArray, List.set_cons_zero, List.set_cons_succ, i64_w, i32_w]
           rfl
          refine pure_ (i := 6) (N := some 80) (v := ?_) (a' := ?_) #[true, true, true, true, true, true, true, true, false, true, false, false, false, false, false, false] rfl rfl (by kernel_rfl) (fun _ _ _ h => h) (Or.inl ⟨by rfl, ?_⟩) ?_ ?_
          rotate_left
          ·
           intro w'
           go_simp
           with_reducible rfl
          rotate_left
          ·
           simp only [Act.put, List.setIfInBounds_toArray, List.set_cons_zero, List.set_cons_succ, i64_w, i32_w]
           rfl
          refine take_ (i := 8) (N := some 82) (v := ?_) (a' := ?_) #[true, true, true, true, true, true, true, true, true, true, false, false, false, false, false, false] rfl rfl (by kernel_rfl) (fun _ _ _ h => h) (Or.inl ⟨by rfl, ?_⟩) hHeld ?_ ?_
          rotate_left
          ·
           rintro w' ⟨s0, s1, s2, s3⟩
           go_simp
           with_reducible rfl
          rotate_left
          ·
           simp only [Act.put, List.setIfInBounds_toArray, List.set_cons_zero, List.set_cons_succ, i64_w, i32_w]
           rfl
          refine pure_ (i := 10) (N := some 84) (v := ?_) (a' := ?_) #[true, true, true, true, true, true, true, true, true, true, true, false, false, false, false, false] rfl rfl (by kernel_rfl) (fun _ _ _ h => h) (Or.inl ⟨by rfl, ?_⟩) ?_ ?_
          rotate_left
          ·
           intro w'
           go_simp
           with_reducible rfl
          rotate_left
          ·
           simp only [Act.put, List.setIfInBounds_toArray, List.set_cons_zero, List.set_cons_succ, i64_w, i32_w]
           rfl
          refine take_ (i := 11) (N := some 85) (v := ?_) (a' := ?_) #[true, true, true, true, true, true, true, true, true, true, true, true, false, false, false, false] rfl rfl (by kernel_rfl) (fun _ _ _ h => h) (Or.inl ⟨by rfl, ?_⟩) hHeld ?_ ?_
          rotate_left
          ·
           rintro w' ⟨s0, s1, s2, s3⟩
           go_simp
           with_reducible rfl
          rotate_left
          ·
           simp only [Act.put, List.setIfInBounds_toArray, List.set_cons_zero, List.set_cons_succ, i64_w, i32_w]
           rfl
          refine pure_ (i := 12) (N := some 86) (v := ?_) (a' := ?_) #[true, true, true, true, true, true, true, true, true, true, true, true, true, false, false, false] rfl rfl (by kernel_rfl) (fun _ _ _ h => h) (Or.inl ⟨by rfl, ?_⟩) ?_ ?_
          rotate_left
          ·
           intro w'
           go_simp
           with_reducible rfl
          rotate_left
          ·
           simp only [Act.put, List.setIfInBounds_toArray, List.set_cons_zero, List.set_cons_succ, i64_w, i32_w]
           rfl
          refine pure_ (i := 13) (N := some 87) (v := ?_) (a' := ?_) #[true, true, true, true, true, true, true, true, true, true, true, true, true, true, false, false] rfl rfl (by kernel_rfl) (fun _ _ _ h => h) (Or.inl ⟨by rfl, ?_⟩) ?_ ?_
          rotate_left
          ·
           intro w'
           go_simp
           with_reducible rfl
          rotate_left
          ·
           simp only [Act.put, List.setIfInBounds_toArray, List.set_cons_zero, List.set_cons_succ, i64_w, i32_w]
           rfl
          refine pure_ (i := 14) (N := some 88) (v := ?_) (a' := ?_) #[true, true, true, true, true, true, true, true, true, true, true, true, true, true, true, false] rfl rfl (by kernel_rfl) (fun _ _ _ h => h) (Or.inl ⟨by rfl, ?_⟩) ?_ ?_
          rotate_left
          ·
           intro w'
           go_simp
           with_reducible rfl
          rotate_left
          ·
           simp only [Act.put, List.setIfInBounds_toArray, List.set_cons_zero, List.set_cons_succ, i64_w, i32_w]
           rfl
          refine pure_ (i := 15) (N := some 15) (v := ?_) (a' := ?_) #[true, true, true, true, true, true, true, true, true, true, true, true, true, true, true, true] rfl rfl (by kernel_rfl) (fun _ _ _ h => h) (Or.inl ⟨by rfl, ?_⟩) ?_ ?_
          rotate_left
          ·
           intro w'
           go_simp
           with_reducible rfl
          rotate_left
          ·
           simp only [Act.put, List.setIfInBounds_toArray, List.set_cons_zero, List.set_cons_succ, i64_w, i32_w]
           rfl
          refine done_ (by kernel_rfl) ?_
          rw [HSUM.out]
          have HKd := Aside0.mk HKb.out.drew
          have HId := Aside0.mk (HIb.out.below ((Below.refl _ _).drew))
          clear x0 y0 xs0 ys0 x0a y0a xsa ysa x0b y0b xsb ysb
          obtain ⟨ex, ey⟩ := FE.out _ HKd.out
          have hex : (wb.drew).cell? (edx.add p) = some (.bool (rdB (DL l0) (p : Int))) := EXQ.out _ HKd.out
          rw [HDXV.out] at hex
          have hey : (wb.drew).cell? (edy.add p) = some (.bool (rdB (DL l1) (p : Int))) := EYQ.out _ HKd.out
          rw [HDYV.out] at hey
          have hadd : wrap64 (tt + ((sx.size : Int) + (sy.size : Int)) + 1) = tt + ((sx.size : Int) + (sy.size : Int)) + 1 := by have := HM.out; have := HMM.out; have := HNX.out; unfold wrap64; omega
          have hb0 : 0 ≤ tt + ((sx.size : Int) + (sy.size : Int)) := by omega
          have hb1 : tt + ((sx.size : Int) + (sy.size : Int)) ≤ 2700000000 := by omega
          go_wp2_with ((go_at_call 94; refine (rkeep_calls _ w.heap.size gb P (rbOf ((b.onKeep (sx.size : Int)).onPut sy)) 1 HId.out (HBS.out _ HKd.out) (HPF.out _ HKd.out) (by have := (HG2.out).bi.len; have := HMM.out; have := HM.out; have := HNX.out; show ((b.onKeep (sx.size : Int)).onPut sy).out.length ≤ _; omega) ((HG2.out).f1 (by have := HMM.out; have := HM.out; have := HNX.out; omega)) (by have := (HG2.out).bi.drop_le; have := HMM.out; have := HM.out; have := HNX.out; show ((b.onKeep (sx.size : Int)).onPut sy).drop ≤ _; omega) (by omega) (by omega)).mono ?_; rintro e wc ⟨rfl, hbc, hkc⟩; rw [rbOf_keep (HG2.out).bk.bw] at hbc; have HIc := Aside0.mk hbc; have HKc := Aside0.mk (HKd.out.trans hkc (fun _ h _ => h)); clear hbc hkc))
          go_roundw
          case rel =>
           refine ⟨p + 1, tt + ((sx.size : Int) + (sy.size : Int)) + 1, (((b.onKeep (sx.size : Int)).onPut sy).onKeep 1), m + (sx.size : Int) + (sy.size : Int) + 1, by omega, by go_num, by go_num, HKc, HIc, ⟨HG2.out.keep (n := 1) (by omega)⟩, ⟨by have := HM.out; have := HNX.out; omega, by omega, by have := HM.out; omega⟩, ⟨?_⟩, ⟨?_⟩⟩
           ·
            have := HFO.out; rw [ro_round LDX.out LDY.out HLT.out, ← HSX.out, ← HSY.out, HDXV.out, HDYV.out] at this; exact this
           ·
            have := HTO.out; rw [ro_to LDX.out LDY.out HLT.out, ← HSX.out, ← HSY.out, HDXV.out, HDYV.out] at this; simp only [oneN, if_true] at this; first | (simp at this; omega) | omega
          case measure => simp [intOf]; omega
     ·
      have hpn : p = n + 1 := by omega
      have hlb : decide ((p : Int) ≤ (n : Int)) = false := decide_eq_false (by omega)
      have hgt : ¬ (p : Int) ≤ (n : Int) := by omega
      have hFO := HFO.out
      have hTO := HTO.out
      rw [hpn, roAt_done] at hFO hTO
      simp only [List.foldl_nil, toOf] at hFO hTO
      have hN := HN.out
      have hz1 := szs_nonneg ((PL l0).drop p)
      have hz2 := szs_nonneg ((PL l1).drop p)
      have ht0 : 0 ≤ tt := hN.2.1
      have ht1 : tt ≤ 900000000 := by omega
      have hmm : m ≤ 900000001 := by omega
      have HMM := Aside0.mk hmm
      have HFO2 := Aside0.mk hFO
      have HTO2 := Aside0.mk (show tt = toOf (roAll a2 l0 l1) by omega)
      clear hFO hTO hN hz1 hz2 hmm hpn
      by_cases hbig : 268435456 < tt
      ·
       have hbb : decide (268435456 < tt) = true := decide_eq_true hbig
       obtain ⟨rfl, rfl⟩ := HH.out.2 (by rw [← HTO2.out]; exact hbig)
       go_wp2
       go_ret2
       exact ⟨_, rfl, Kd.R_nil _ _ _ _ _, HB10.out.trans (HK.out.below HPB.out HS10.out.2.2.2.2.2.2.1)⟩
      ·
       have hbb : decide (268435456 < tt) = false := decide_eq_false hbig
       obtain ⟨h1, rfl⟩ := HH.out.1 (by rw [← HTO2.out]; omega)
       have HR1F := Aside0.mk h1
       clear h1
       go_wp2_with (go_at_call 96; refine (rdone_calls _ w.heap.size gb P (rbOf b) HI.out (HBS.out _ HK.out) (HPF.out _ HK.out) (by have := HG.out.bi.len; have := HMM.out; show b.out.length ≤ _; omega)).mono ?_; rintro e w4 ⟨v4, rfl, ho4, hk4⟩; have HO4 := Aside0.mk ho4; have HK4 := Aside0.mk (HK.out.trans hk4 (fun _ h _ => h)); clear ho4 hk4)
       go_ret2
       refine ⟨_, rfl, ?_, HB10.out.trans (HK4.out.below HPB.out HS10.out.2.2.2.2.2.2.1)⟩
       have := Kd.R_mono (ok' := fun _ => True) HO4.out (fun _ _ => trivial)
       rw [rbOf_done, HFO2.out, ← HR1F.out] at this
       exact this
end Go.Proofs.Ytidihnnkcmeaeaa.A
