/- galleylaw13.awake: it answers true. No condition. -/
import Derived.Test.YtidihnnkcmeaeaaEInvert
import Derived.Test.YtidihnnkcmeaeaaA5
import Derived.Test.YtidihnnkcmeaeaaA9
import Derived.Lib.SlBytesConst
namespace Go.Proofs.Ytidihnnkcmeaeaa.A
open Go.RowKit Go.Proofs.YtidihnnkcmeaeaaW.PrintWords Go.Proofs.YtidihnnkcmeaeaaW.PrintLast Go.Proofs.YtidihnnkcmeaeaaW.PrintMore
set_option linter.unusedVariables false
set_option linter.unusedSimpArgs false

def awD : List S70 := [⟨1, 2, noText⟩, ⟨2, 0, ⟨#[120, 121]⟩⟩, ⟨3, 1, noText⟩, ⟨1, 3, noText⟩]
def awB : List Int := [97, 98, 99, 100, 101, 102]
def awR : List Int := [97, 98, 120, 121, 100, 101, 102]
def awI : List S70 := [⟨1, 2, noText⟩, ⟨2, 0, ⟨#[99]⟩⟩, ⟨3, 2, noText⟩, ⟨1, 3, noText⟩]
theorem aw1 : delta_Apply.f awB awD = some (awR, 0) := by kernel_rfl
theorem aw2 : delta_Invert.f awB awD = some (awI, 0) := by kernel_rfl
theorem aw0 : canB awD = true := by kernel_rfl
theorem awF : fromOf awD = 6 := by kernel_rfl
theorem awT : toOf awD = 7 := by kernel_rfl
theorem lens_all {d : List S70} (hl : d.length ≤ 9223372036854775807) (h : canB d = true) : Ev (fun k => delta_Lens.f k d) (fromOf d, toOf d, 0) := by
  have h1 := valid_ev d hl
  rw [h] at h1
  exact Ev.bind h1 (Ev.bind (lens_can hl h) (Ev.now _))
theorem aw3 : ∃ k, delta_Lens.f k awD = some (6, 7, 0) := by
  have h := lens_all (d := awD) (by decide) aw0
  rw [awF, awT] at h
  exact h.rounds
theorem aw4 : ∃ k, delta_Valid.f k awD = some true := by
  have h := valid_ev awD (by decide)
  rw [aw0] at h
  exact h.rounds
theorem aw5 : galleylaw13_own.f awD = some awD := by kernel_rfl
theorem awB_C (w : World) : Kd.C (Kd.int .u8) (w.alloc (.cells #[.int .u8 97, .int .u8 98, .int .u8 99, .int .u8 100, .int .u8 101, .int .u8 102] 5 (6, 7))) (some ⟨w.heap.size, 0, none⟩) 6 awB := by
  refine ⟨rfl, by decide, fun _ => ⟨_, rfl, fun j p hp => ?_⟩⟩
  rcases j with _ | _ | _ | _ | _ | _ | j <;> simp [awB] at hp <;> subst hp <;> refine ⟨[.int .u8 _], rfl, rfl, fun i u hu => ?_⟩ <;> rcases i with _ | i <;> simp at hu <;> subst hu <;> exact (World.cell?_alloc_mark _ _ _ _ _).trans rfl
theorem awD_C (w : World) : Kd.C k70 (w.alloc (.cells #[.int .i64 1, .int .i64 2, .string ⟨#[]⟩, .int .i64 2, .int .i64 0, .string ⟨#[120, 121]⟩, .int .i64 3, .int .i64 1, .string ⟨#[]⟩, .int .i64 1, .int .i64 3, .string ⟨#[]⟩] 70)) (some ⟨w.heap.size, 0, none⟩) 4 awD := by
  refine ⟨rfl, by decide, fun _ => ⟨_, rfl, fun j p hp => ?_⟩⟩
  rcases j with _ | _ | _ | _ | j <;> simp [awD] at hp <;> subst hp <;> refine ⟨_, rfl, k70_mk _ _, fun i u hu => ?_⟩ <;> rcases i with _ | _ | _ | i <;> simp at hu <;> subst hu <;> exact (blk_cell (blk_new w _) _).trans rfl

theorem awS : ((strOfNums awR).toList == [97, 98, 120, 121, 100, 101, 102]) = true := by rw [ByteArray.toList_eq]; kernel_rfl
theorem awS2 : ((⟨#[99]⟩ : ByteArray).toList == [99]) = true := by rw [ByteArray.toList_eq]; kernel_rfl
theorem awL : awI.length = 4 := rfl
def galleylaw13_awake.f : Option Bool := some true
theorem below_tr {W0 W W' : World} (h : Below W0.heap.size W0 W) (k : Below W.heap.size W W') : Below W0.heap.size W0 W' := h.trans (k.mono h.size)
set_option maxHeartbeats 8000000 in
set_option maxRecDepth 100000 in
theorem galleylaw13_awake.calls (r : Bool) (w : World) (h : galleylaw13_awake.f = some r) :
    Calls Try.prog 23 #[] w fun e w' => e = .returned (.bool r) ∧ Below w.heap.size w w' := by
  have kc := fun (w : World) (C : Array Value) (n c : Nat) => Lib.run_convert_bytes_const (P := Try.prog) w 23 5 C n c Try.underlying23 Try.underlying5
  simp only [galleylaw13_awake.f, Option.some.injEq] at h
  subst h
  obtain ⟨k3, hk3⟩ := aw3
  obtain ⟨k4, hk4⟩ := aw4
  have HD := Aside0.mk (awD_C w)
  have hst := awS
  have hst2 := awS2
  have kc1 := kc (w.alloc (.cells #[.int .i64 1, .int .i64 2, .string ⟨#[]⟩, .int .i64 2, .int .i64 0, .string ⟨#[120, 121]⟩, .int .i64 3, .int .i64 1, .string ⟨#[]⟩, .int .i64 1, .int .i64 3, .string ⟨#[]⟩] 70)) #[.int .u8 97, .int .u8 98, .int .u8 99, .int .u8 100, .int .u8 101, .int .u8 102] 6 6
  have hs1 : (w.alloc (.cells #[.int .i64 1, .int .i64 2, .string ⟨#[]⟩, .int .i64 2, .int .i64 0, .string ⟨#[120, 121]⟩, .int .i64 3, .int .i64 1, .string ⟨#[]⟩, .int .i64 1, .int .i64 3, .string ⟨#[]⟩] 70)).heap.size = w.heap.size + 1 := by simp
  have HBC := Aside0.mk (awB_C (w.alloc (.cells #[.int .i64 1, .int .i64 2, .string ⟨#[]⟩, .int .i64 2, .int .i64 0, .string ⟨#[120, 121]⟩, .int .i64 3, .int .i64 1, .string ⟨#[]⟩, .int .i64 1, .int .i64 3, .string ⟨#[]⟩] 70)))
  rw [hs1] at kc1 HBC
  go_enter Try.func23, Try.ntmps23
  have HB := Aside0.mk (Below.refl (w.alloc (.cells #[.int .i64 1, .int .i64 2, .string ⟨#[]⟩, .int .i64 2, .int .i64 0, .string ⟨#[120, 121]⟩, .int .i64 3, .int .i64 1, .string ⟨#[]⟩, .int .i64 1, .int .i64 3, .string ⟨#[]⟩] 70)).heap.size (w.alloc (.cells #[.int .i64 1, .int .i64 2, .string ⟨#[]⟩, .int .i64 2, .int .i64 0, .string ⟨#[120, 121]⟩, .int .i64 3, .int .i64 1, .string ⟨#[]⟩, .int .i64 1, .int .i64 3, .string ⟨#[]⟩] 70)))
  go_wp2_with (first
    | (go_at_call 26; refine (galleylaw13_own.calls (some ⟨w.heap.size, 0, none⟩) 4 awD awD _ (Kd.C_below HD.out (show Below (w.alloc (.cells #[.int .i64 1, .int .i64 2, .string ⟨#[]⟩, .int .i64 2, .int .i64 0, .string ⟨#[120, 121]⟩, .int .i64 3, .int .i64 1, .string ⟨#[]⟩, .int .i64 1, .int .i64 3, .string ⟨#[]⟩] 70)).heap.size (w.alloc (.cells #[.int .i64 1, .int .i64 2, .string ⟨#[]⟩, .int .i64 2, .int .i64 0, .string ⟨#[120, 121]⟩, .int .i64 3, .int .i64 1, .string ⟨#[]⟩, .int .i64 1, .int .i64 3, .string ⟨#[]⟩] 70)) _ from by repeat (first | (with_reducible first | exact HB.out | apply below_alloc | apply pw_below_drewN | apply below_drew1) | exact HB.out))) (by decide) aw5).mono ?_; rintro e w3 ⟨v3, rfl, hr3, hb3⟩; obtain ⟨A3, c3, hv3, hc3, hC3⟩ := Kd.R_reads hr3; subst hv3; have HB4 := Aside0.mk (below_tr (show Below w4.heap.size w4 _ from by repeat (first | (with_reducible first | exact HB4.out | apply below_alloc | apply pw_below_drewN | apply below_drew1) | exact HB4.out)) hb3); have HB := Aside0.mk (below_tr (show Below (w.alloc (.cells #[.int .i64 1, .int .i64 2, .string ⟨#[]⟩, .int .i64 2, .int .i64 0, .string ⟨#[120, 121]⟩, .int .i64 3, .int .i64 1, .string ⟨#[]⟩, .int .i64 1, .int .i64 3, .string ⟨#[]⟩] 70)).heap.size (w.alloc (.cells #[.int .i64 1, .int .i64 2, .string ⟨#[]⟩, .int .i64 2, .int .i64 0, .string ⟨#[120, 121]⟩, .int .i64 3, .int .i64 1, .string ⟨#[]⟩, .int .i64 1, .int .i64 3, .string ⟨#[]⟩] 70)) _ from by repeat (first | (with_reducible first | exact HB.out | apply below_alloc | apply pw_below_drewN | apply below_drew1) | exact HB.out)) hb3); have HC3 := Aside0.mk hC3; have HC3c := Aside0.mk hc3; have HW3 := Aside0.mk hb3; clear hr3 hb3 hc3 hC3)
    | (go_at_call 26; refine (galleylaw13_own.calls (some ⟨w.heap.size, 0, none⟩) 4 awD awD _ (Kd.C_below HD.out (show Below (w.alloc (.cells #[.int .i64 1, .int .i64 2, .string ⟨#[]⟩, .int .i64 2, .int .i64 0, .string ⟨#[120, 121]⟩, .int .i64 3, .int .i64 1, .string ⟨#[]⟩, .int .i64 1, .int .i64 3, .string ⟨#[]⟩] 70)).heap.size (w.alloc (.cells #[.int .i64 1, .int .i64 2, .string ⟨#[]⟩, .int .i64 2, .int .i64 0, .string ⟨#[120, 121]⟩, .int .i64 3, .int .i64 1, .string ⟨#[]⟩, .int .i64 1, .int .i64 3, .string ⟨#[]⟩] 70)) _ from by repeat (first | (with_reducible first | exact HB.out | apply below_alloc | apply pw_below_drewN | apply below_drew1) | exact HB.out))) (by decide) aw5).mono ?_; rintro e w3 ⟨v3, rfl, hr3, hb3⟩; obtain ⟨A3, c3, hv3, hc3, hC3⟩ := Kd.R_reads hr3; subst hv3; have HB := Aside0.mk (below_tr (show Below (w.alloc (.cells #[.int .i64 1, .int .i64 2, .string ⟨#[]⟩, .int .i64 2, .int .i64 0, .string ⟨#[120, 121]⟩, .int .i64 3, .int .i64 1, .string ⟨#[]⟩, .int .i64 1, .int .i64 3, .string ⟨#[]⟩] 70)).heap.size (w.alloc (.cells #[.int .i64 1, .int .i64 2, .string ⟨#[]⟩, .int .i64 2, .int .i64 0, .string ⟨#[120, 121]⟩, .int .i64 3, .int .i64 1, .string ⟨#[]⟩, .int .i64 1, .int .i64 3, .string ⟨#[]⟩] 70)) _ from by repeat (first | (with_reducible first | exact HB.out | apply below_alloc | apply pw_below_drewN | apply below_drew1) | exact HB.out)) hb3); have HC3 := Aside0.mk hC3; have HC3c := Aside0.mk hc3; have HW3 := Aside0.mk hb3; clear hr3 hb3 hc3 hC3)
    | (go_at_call 24; refine (delta_Apply.calls _ 6 awB _ _ awD awR 0 _ (Kd.C_below HBC.out HW3.out) (by decide) HC3.out HC3c.out aw1).mono ?_; rintro e w4 ⟨v4, rfl, hr4, hb4⟩; obtain ⟨A4, c4, hv4, hc4, hC4⟩ := Kd.R_reads hr4; subst hv4; have HB := Aside0.mk (below_tr HB.out hb4); have HC4 := Aside0.mk hC4; have HB4 := Aside0.mk (Below.refl w4.heap.size w4); clear hr4 hb4 hc4 hC4)
    | (go_at_call 38; refine (delta_Lens.calls k3 _ _ awD 6 7 0 _ HC3.out HC3c.out hk3).mono ?_; rintro e w5 ⟨rfl, hb5⟩; have HB := Aside0.mk (below_tr HB.out hb5); have HB4 := Aside0.mk (below_tr HB4.out hb5); clear hb5)
    | (go_at_call 27; refine (delta_Invert.calls _ 6 awB _ _ awD awI 0 _ (Kd.C_below (awB_C _) HW3.out) (by decide) HC3.out HC3c.out aw2).mono ?_; rintro e w7 ⟨v7, rfl, hr7, hb7⟩; obtain ⟨g7, c7, hv7, _, _, _, _⟩ := Kd.R_form hr7 (by decide); rw [awL] at hv7; subst hv7; obtain ⟨ce, hcl, hM, hcc, hfr⟩ := Kd.R_elem hr7 z70 1 (by decide) (by decide); have hce := k70_openM hM; subst hce; have d9 : w7.cell? ⟨g7, 5, none⟩ = some (.string ⟨#[99]⟩) := hcc 2 _ rfl; have HB := Aside0.mk (below_tr HB.out hb7); have HB4 := Aside0.mk (below_tr HB4.out hb7); have hcv := Kd.C_string (P := Try.prog) (A := A4) (c := c4) Try.underlying23 Try.underlying5 Try.underlying9 (Kd.C_below HC4.out HB4.out); clear hr7 hb7 hcc hfr hM hcl)
    | (go_at_call 35; (refine (delta_Valid.calls k4 _ _ awD true _ (Kd.C_below HD.out HB.out) (by decide) hk4).mono ?_; rintro e w8 ⟨rfl, hb8⟩; have HB := Aside0.mk (below_tr HB.out hb8); clear hb8)))
  go_ret
  exact ⟨rfl, below_tr (below_alloc (Below.refl w.heap.size w) _) HB.out⟩
end Go.Proofs.Ytidihnnkcmeaeaa.A
