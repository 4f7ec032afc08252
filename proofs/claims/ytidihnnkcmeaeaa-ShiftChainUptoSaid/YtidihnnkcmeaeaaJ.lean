/- each: the operations one by one, handed to whatever functions, under whatever relation these keep. No condition but that the list can be read. -/
import Derived.Test.YtidihnnkcmeaeaaI
import Derived.Shelf.Abstract
namespace Go.Proofs.Ytidihnnkcmeaeaa.A
open Go.RowKit Go.Proofs.YtidihnnkcmeaeaaW.PrintWords Go.Proofs.YtidihnnkcmeaeaaW.PrintLast Go.Proofs.YtidihnnkcmeaeaaW.PrintMore
set_option linter.unusedVariables false
set_option linter.unusedSimpArgs false
theorem onKeep_calls (w : World) (base g : Nat) (P : Nat → Prop) (b : Bs) (n : Int) (s : ByteArray) (hb : IsB w base P g b) (hbase : base ≤ w.heap.size) (hPf : ∀ k, w.heap.size ≤ k → P k) (hl : b.out.length ≤ 3000000000000)
  (hk : b.last = 1 → b.out ≠ [] ∧ -1000000000000 ≤ (rd_T70 b.out ((b.out.length - 1 : Nat) : Int)).f1 ∧ (rd_T70 b.out ((b.out.length - 1 : Nat) : Int)).f1 ≤ 1000000000000) (h2 : n ≤ 1000000000000) (h3 : -1000000000000 ≤ n) :
  Calls Try.prog 71 #[.pointer (some ⟨g, 0, none⟩), .int .i64 n, .string s] w fun e w' => e = .returned (.tuple #[]) ∧ IsB w' base P g (b.onKeep n) ∧ Kp P w w' := by
 by_cases hn : n = 0
 ·
  exact onKeep_zero w base g P b n s hb hn
 ·
  by_cases h1 : b.last = 1
  ·
   obtain ⟨ha, hb1, hc⟩ := hk h1
   exact onKeep_grow w base g P b n s hb hn h1 ha hb1 hc h2 h3
  ·
   by_cases h4 : b.last = 2
   ·
    exact onKeep_flush w base g P b n s hb hn h4 hbase hPf hl
   ·
    exact onKeep_new w base g P b n s hb hn h1 h4 hbase hPf (by omega)
set_option maxHeartbeats 8000000 in
set_option maxRecDepth 100000 in
theorem each_calls (nk np nd : FuncId) (hek : Go.Proofs.Enters Try.prog nk) (hep : Go.Proofs.Enters Try.prog np) (hed : Go.Proofs.Enters Try.prog nd) (fk ck fp cp fd cd : Array Value)
  (A0 : Option Addr) (c0 : Nat) (l0 : List S70) (w : World) (hc0 : l0.length ≤ c0)
  (hkind : ∀ o ∈ l0, kindOk o = true)
  (I : Nat → World → Prop) (hI0 : I 0 w)
  (hIB : ∀ k W, I k W → Kd.C k70 W A0 l0.length l0)
  (hst : ∀ k W W', I k W → Below W.heap.size W W' → I k W')
  (hkeep : ∀ k W, k < l0.length → I k W → (rd_T70 l0 (k : Int)).f0 = 1 → Calls Try.prog nk (fk ++ (#[.int .i64 (rd_T70 l0 (k : Int)).f1, .string ⟨#[]⟩] ++ ck)) W fun e W' => e = .returned (.tuple #[]) ∧ I (k + 1) W')
  (hput : ∀ k W, k < l0.length → I k W → (rd_T70 l0 (k : Int)).f0 = 2 → Calls Try.prog np (fp ++ (#[.int .i64 0, .string (rd_T70 l0 (k : Int)).f2] ++ cp)) W fun e W' => e = .returned (.tuple #[]) ∧ I (k + 1) W')
  (hdrop : ∀ k W, k < l0.length → I k W → (rd_T70 l0 (k : Int)).f0 = 3 → Calls Try.prog nd (fd ++ (#[.int .i64 (rd_T70 l0 (k : Int)).f1, .string ⟨#[]⟩] ++ cd)) W fun e W' => e = .returned (.tuple #[]) ∧ I (k + 1) W') :
  Calls Try.prog 65 #[.slice A0 l0.length c0, .func (.func nk) fk ck, .func (.func np) fp cp, .func (.func nd) fd cd] w fun e w' => e = .returned (.bool true) ∧ I l0.length w' := by
 have hu70 := Try.underlying70
 have HC0 := Aside0.mk hc0
 have HKD := Aside0.mk hkind
 have HKEEP := Aside0.mk hkeep
 have HPUT := Aside0.mk hput
 have HDROP := Aside0.mk hdrop
 have HIB := Aside0.mk hIB
 have HST := Aside0.mk hst
 have HI0 := Aside0.mk hI0
 have hek' : ∀ (args : Array Value) (w : World), (callFunc nk args).run Try.prog w = .ok (.enter nk args) w := hek
 have hep' : ∀ (args : Array Value) (w : World), (callFunc np args).run Try.prog w = .ok (.enter np args) w := hep
 have hed' : ∀ (args : Array Value) (w : World), (callFunc nd args).run Try.prog w = .ok (.enter nd args) w := hed
 clear hc0 hkind hkeep hput hdrop hIB hst hI0 hek hep hed
 have hlen : (l0.length : Int) ≤ 9223372036854775807 := by have := Kd.C_max (HIB.out 0 w HI0.out); omega
 go_enter Try.func65, Try.ntmps65
 go_wp2
 go_loopw [13] (fun v wr => ∃ k : Nat, k ≤ l0.length ∧ v = .int .i64 k ∧ Aside0 (I k wr)) (fun v _ => l0.length - (intOf v).toNat)
 case atStart => exact ⟨0, Nat.zero_le _, rfl, HI0⟩
 case round =>
  obtain ⟨k, hk, rfl, hI⟩ := hrel
  by_cases hlt : k < l0.length
  ·
   have hlt' : (k : Int) < (l0.length : Int) := by omega
   have hk0 : (0 : Int) ≤ (k : Int) := by omega
   obtain ⟨ad, e1, hx0, hx1, hx2⟩ := at_T70 (HIB.out k wr hI.out) (k : Int) hk0 hlt'
   subst e1
   rw [Int.toNat_natCast] at hx0 hx1 hx2
   have hko := HKD.out (rd_T70 l0 (k : Int)) (by unfold rd_T70; rw [Int.toNat_natCast, List.getD_eq_getElem?_getD, List.getElem?_eq_getElem hlt]; exact List.getElem_mem hlt)
   simp only [kindOk, Bool.and_eq_true, decide_eq_true_eq, Bool.or_eq_true, beq_iff_eq] at hko
   obtain ⟨⟨hk1, hk3⟩, hkn⟩ := hko
   have hwk : (k : Int) + 1 ≤ 9223372036854775807 := by omega
   by_cases h2 : (rd_T70 l0 (k : Int)).f0 = 2
   ·
    have h2b : ((rd_T70 l0 (k : Int)).f0 == 2) = true := beq_iff_eq.mpr h2
    have H2 := Aside0.mk h2
    clear h2 hk1 hk3 hkn
    go_wp2_with (go_at_fn np; refine (HPUT.out k _ hlt (HST.out k wr _ hI.out (below_alloc (Below.refl _ _) _)) H2.out).mono ?_; rintro e w2 ⟨rfl, hI2⟩; have HI2 := Aside0.mk hI2; clear hI2)
    go_roundw
    case rel => exact ⟨k + 1, by omega, by go_num, HI2⟩
    case measure => simp [intOf]; omega
   ·
    have h2b : ((rd_T70 l0 (k : Int)).f0 == 2) = false := beq_eq_false_iff_ne.mpr h2
    have hn0 : ¬ (rd_T70 l0 (k : Int)).f1 < 0 := by omega
    have hn0b : decide ((rd_T70 l0 (k : Int)).f1 < 0) = false := decide_eq_false hn0
    have hn1 : 0 ≤ (rd_T70 l0 (k : Int)).f1 := by omega
    by_cases h1 : (rd_T70 l0 (k : Int)).f0 = 1
    ·
     have h1b : ((rd_T70 l0 (k : Int)).f0 == 1) = true := beq_iff_eq.mpr h1
     have h1c : ((rd_T70 l0 (k : Int)).f0 != 1) = false := bne_eq_false_iff_eq.mpr h1
     have H2 := Aside0.mk h1
     clear h1 h2 hk1 hk3 hkn
     go_wp2_with (go_at_fn nk; refine (HKEEP.out k _ hlt (HST.out k wr _ hI.out (below_alloc (Below.refl _ _) _)) H2.out).mono ?_; rintro e w2 ⟨rfl, hI2⟩; have HI2 := Aside0.mk hI2; clear hI2)
     go_roundw
     case rel => exact ⟨k + 1, by omega, by go_num, HI2⟩
     case measure => simp [intOf]; omega
    ·
     have h1b : ((rd_T70 l0 (k : Int)).f0 == 1) = false := beq_eq_false_iff_ne.mpr h1
     have h1c : ((rd_T70 l0 (k : Int)).f0 != 1) = true := bne_iff_ne.mpr h1
     have h3 : (rd_T70 l0 (k : Int)).f0 = 3 := by omega
     have h3b : ((rd_T70 l0 (k : Int)).f0 == 3) = true := beq_iff_eq.mpr h3
     have h3c : ((rd_T70 l0 (k : Int)).f0 != 3) = false := bne_eq_false_iff_eq.mpr h3
     have H2 := Aside0.mk h3
     clear h1 h2 hk1 hk3 hkn h3
     go_wp2_with (go_at_fn nd; refine (HDROP.out k _ hlt (HST.out k wr _ hI.out (below_alloc (Below.refl _ _) _)) H2.out).mono ?_; rintro e w2 ⟨rfl, hI2⟩; have HI2 := Aside0.mk hI2; clear hI2)
     go_roundw
     case rel => exact ⟨k + 1, by omega, by go_num, HI2⟩
     case measure => simp [intOf]; omega
  ·
   have hkl : k = l0.length := by omega
   have HI2 := Aside0.mk (show I l0.length wr from hkl ▸ hI.out)
   have hge : ¬ (k : Int) < (l0.length : Int) := by omega
   clear hkl
   go_wp2
   go_ret
   exact ⟨rfl, HI2.out⟩
end Go.Proofs.Ytidihnnkcmeaeaa.A
