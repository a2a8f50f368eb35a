/- Walk: distance.Inflate. Conditions: as each theorem states. -/
import Derived.Test.YtpanbblbcnmadaaSqs
import Derived.Test.YtpanbblbcnmadaaClone
import Derived.Test.YtpanbblbcnmadaaMinfl
namespace Go.Proofs.Ytpanbblbcnmadaa
open Go.RowKit

/-- A plan and an error number are returned. -/
def PlanRes (W H : Int) (ys : List Int) (q : Int) (w : World) (e : Ending) (w' : World) : Prop :=
  ∃ A c, e = .returned (.tuple #[.agg #[.int .i64 W, .int .i64 H, .slice A ys.length c], .int .i64 q]) ∧ Ints w' .u8 A ys ∧ Below w.heap.size w w'

/-- A plan with a new row of its own is returned. -/
def PlanRow (W H : Int) (ys : List Int) (w : World) (e : Ending) (w' : World) : Prop :=
  ∃ g, e = .returned (.tuple #[.agg #[.int .i64 W, .int .i64 H, .slice (some ⟨g, 0, none⟩) ys.length ys.length], .int .i64 0]) ∧ w.heap.size ≤ g ∧ Arr w' g 5 .u8 ys ∧ Below w.heap.size w w'

theorem dinfl_inv (W H r2 : Int) (A : Option Addr) (n c : Nat) (xs : List Int) (w : World) (hn : n = xs.length) (hv : vldB W H xs = false) (hr : Ints w .u8 A xs) :
    Calls Try.prog 24 #[.agg #[.int .i64 W, .int .i64 H, .slice A n c], .int .i64 r2] w (PlanRes 0 0 [] 1 w) := by
  have Hn := hid hn
  have Hv := hid hv
  clear hn hv
  go_enter Try.func24, Try.ntmps24
  go_wp2_with fail
  refine (valid_f _ _ _ _ _ xs _ Hn.out Hv.out ((hr.alloc _).alloc _)).mono ?_
  rintro e w1 ⟨rfl, hb1⟩
  have hR1 := (Cells.new' (b := w.heap.size + 1) (w.alloc (.cells #[.int .i64 W, .int .i64 H, .slice A n c] 24)) [.int .i64 0, .int .i64 0, .slice none 0 0] 24 (by simp)).below hb1
  obtain ⟨⟨r0, r1, r2'⟩, ⟨f0, f1, f2⟩⟩ := hR1.three'
  go_wp2_with fail
  refine bodyPost_ret (v := .tuple #[.agg #[.int .i64 0, .int .i64 0, .slice none 0 0], .int .i64 1]) (by simp [results, Try.results24, go_sem, r0, r1, r2']) rfl ⟨_, _, rfl, .inl rfl, ?_⟩
  exact (((bstep (ba2 w _ _) hb1).setCell (by simp) _).setCell (by simp) _).setCell (by simp) _

theorem dinfl_range (W H r2 : Int) (A : Option Addr) (n c : Nat) (xs : List Int) (w : World) (hn : n = xs.length) (hv : vldB W H xs = true) (hr : Ints w .u8 A xs) (hr2 : r2 < 0 ∨ ¬ r2 < 0 ∧ 8192 < r2) :
    Calls Try.prog 24 #[.agg #[.int .i64 W, .int .i64 H, .slice A n c], .int .i64 r2] w (PlanRes 0 0 [] 2 w) := by
  have Hn := hid hn
  have Hv := hid hv
  clear hn hv
  rcases hr2 with h1 | ⟨h1, h2⟩
  all_goals
    go_enter Try.func24, Try.ntmps24
    go_wp2_with fail
    refine (valid_t _ _ _ _ _ xs _ Hn.out Hv.out ((hr.alloc _).alloc _)).mono ?_
    rintro e w1 ⟨rfl, hb1⟩
    have hR1 := (Cells.new' (b := w.heap.size + 1) (w.alloc (.cells #[.int .i64 W, .int .i64 H, .slice A n c] 24)) [.int .i64 0, .int .i64 0, .slice none 0 0] 24 (by simp)).below hb1
    obtain ⟨⟨r0, r1, r2'⟩, ⟨f0, f1, f2⟩⟩ := hR1.three'
    go_wp2_with fail
    refine bodyPost_ret (v := .tuple #[.agg #[.int .i64 0, .int .i64 0, .slice none 0 0], .int .i64 2]) (by simp [results, Try.results24, go_sem, r0, r1, r2']) rfl ⟨_, _, rfl, .inl rfl, ?_⟩
    exact (((bstep (ba2 w _ _) hb1).setCell (by simp) _).setCell (by simp) _).setCell (by simp) _

set_option maxRecDepth 100000 in
set_option maxHeartbeats 2000000 in
theorem dinfl_o (W H r2 : Int) (A : Option Addr) (n c : Nat) (xs : List Int) (w : World) (hn : n = xs.length) (hv : vldB W H xs = true) (hr : Ints w .u8 A xs) (h0 : 0 ≤ r2) (h1 : r2 ≤ 8192) :
    Calls Try.prog 24 #[.agg #[.int .i64 W, .int .i64 H, .slice A n c], .int .i64 r2] w (PlanRow W H (infl r2 (sqs W H xs)) w) := by
  have hV := vld_iff.1 hv
  obtain ⟨hp1, hp2, hp3, hp4⟩ := hV.pos
  have hlen := hV.len
  have HL : Hid ((sqs W H xs).length = n) := by unfold Hid; rw [sqs_len]; omega
  have Hn := hid hn
  have Hv := hid hv
  have HV := hid hV
  have hn2 : n ≤ 4096 := by omega
  clear hn hv hV hlen hp1 hp2 hp3 hp4
  have hmk := fun W => run_make_row' (P := Try.prog) 22 5 (.int .u8 0) 1 Try.underlying22 u8Info rfl .i64 .i64 n (by omega) (by omega) W
  go_enter Try.func24, Try.ntmps24
  go_wp2_with fail
  refine (valid_t _ _ _ _ _ xs _ Hn.out Hv.out ((hr.alloc _).alloc _)).mono ?_
  rintro e w1 ⟨rfl, hb1⟩
  have hP1 := ((Cells.new w [.int .i64 W, .int .i64 H, .slice A n c] 24).alloc (.cells #[.int .i64 0, .int .i64 0, .slice none 0 0] 24)).below hb1
  have hR1 := (Cells.new' (b := w.heap.size + 1) (w.alloc (.cells #[.int .i64 W, .int .i64 H, .slice A n c] 24)) [.int .i64 0, .int .i64 0, .slice none 0 0] 24 (by simp)).below hb1
  have hB1 := bstep (ba2 w (.cells #[.int .i64 W, .int .i64 H, .slice A n c] 24) (.cells #[.int .i64 0, .int .i64 0, .slice none 0 0] 24)) hb1
  have hr1 := hr.below hB1
  have hs1 := hb1.size
  simp only [World.size_alloc] at hs1
  clear hb1 hr
  obtain ⟨p0, p1, p2⟩ := hP1.three
  have hg0 := hP1.lt
  have hg1 := hR1.lt
  go_upto_region 5 with fail
  go_cut [6] (fun s6 wx => ∃ g1 g2 : Nat, s6 = .pointer (some ⟨g1, 0, none⟩) ∧ w1.heap.size ≤ g1 ∧ w1.heap.size ≤ g2 ∧ g1 ≠ g2 ∧ Cells wx g1 [.int .i64 W, .int .i64 H, .slice (some ⟨g2, 0, none⟩) n n] ∧ Arr wx g2 5 .u8 (List.replicate n 0) ∧ Below w1.heap.size w1 wx)
  case first =>
    go_region
    all_goals
      go_wp2_with fail
      go_meet
      first
        | exact ⟨w1.heap.size + 1, w1.heap.size, rfl, by omega, by omega, by omega, (Cells.new' _ _ _ (by simp)).drew, ((Arr.made w1 5 .u8 n).alloc _).drew, (ba2 _ _ _).drew⟩
        | exact ⟨w1.heap.size, w1.heap.size + 1, rfl, by omega, by omega, by omega, ((Cells.new w1 _ _).alloc _).drew, by have h2 := Arr.made (w1.alloc (.cells #[.int .i64 W, .int .i64 H, .slice (some ⟨w1.heap.size + 1, 0, none⟩) n n] 24)) 5 .u8 n; rw [World.size_alloc] at h2; exact h2.drew, (ba2 _ _ _).drew⟩
  case rest =>
    obtain ⟨g1, g2, rfl, k1, k2, k3, hC, hA, hbx⟩ := hcut
    clear p0 p1 p2 hmk
    obtain ⟨p0, p1, p2⟩ := (hP1.below hbx).three
    go_wp2_with fail
    refine (squares_any _ _ _ _ _ xs _ Hn.out HV.out (hr1.below hbx)).mono ?_
    rintro e w3 ⟨g3, arr, hg3, rfl, hl3, hR3, ha3, hb3⟩
    subst hR3
    clear hl3
    have hC3 := hC.below hb3
    have hA3 := hA.below hb3
    have hB3 := bstep hbx hb3
    have k4 : g2 ≠ g3 := by have := hA.lt; omega
    clear p0 p1 p2 hC hA hbx hb3 hg3 hP1 hr1
    go_wp2_with fail
    go_loopw [7, 8, 32] (fun _ _ i wr => ∃ (k : Nat) (out : List Int), k ≤ n ∧ i = .int .i64 k ∧ Hid (out.length = n) ∧ Hid (InflUp r2 (sqs W H xs) out k) ∧ Arr wr g2 5 .u8 out ∧ Arr wr g3 3 .i64 (sqs W H xs) ∧ Cells wr g1 [.int .i64 W, .int .i64 H, .slice (some ⟨g2, 0, none⟩) n n] ∧ Below w1.heap.size w1 wr) (fun _ _ i _ => n - (intOf i).toNat)
    case atStart => exact ⟨0, _, by omega, rfl, by simp [Hid], fun j hj => by omega, hA3, ha3, hC3, hB3⟩
    case round =>
      clear hA3 ha3 hC3 hB3
      obtain ⟨k, out, hk, rfl, HO, HU, hA, hS, hC, hB⟩ := hrel
      by_cases hlt : k < n
      · have c1 := hA.cell (j := k) (by rw [HO.out]; exact hlt)
        have c2 := hA.frozen k
        have c3 := hS.cell (j := k) (by rw [HL.out]; exact hlt)
        obtain ⟨c4, c5, c6⟩ := hC.three
        have hkI : (k : Int) < n := by omega
        have hat := infl_at (r2 := r2) (l := sqs W H xs) (k := k) (by rw [HL.out]; exact hlt)
        by_cases hd : r2 < gi (sqs W H xs) k
        · rw [if_pos hd] at hat
          have HU' : Hid (InflUp r2 (sqs W H xs) ((out.set k 2).set k 1) (k + 1)) := by
            have h := HU.out.step (by rw [HO.out]; exact hlt) 1 hat.symm
            unfold Hid; rwa [List.set_set]
          clear hat
          go_wp2
          go_roundw
          case rel => exact ⟨k + 1, (out.set k 2).set k 1, by omega, by go_num, by unfold Hid; rw [List.length_set, List.length_set]; exact HO.out, HU', (hA.set k 2).set k 1, (hS.far (by simp; omega) _).far (by simp; omega) _, (hC.far (by simp; omega) _).far (by simp; omega) _, (hB.setCell (by simp; omega) _).setCell (by simp; omega) _⟩
          case measure => simp [intOf]; omega
        · rw [if_neg hd] at hat
          have HU' := hid (HU.out.step (by rw [HO.out]; exact hlt) 2 hat.symm)
          clear hat
          go_wp2
          go_roundw
          case rel => exact ⟨k + 1, out.set k 2, by omega, by go_num, by unfold Hid; rw [List.length_set]; exact HO.out, HU', hA.set k 2, hS.far (by simp; omega) _, hC.far (by simp; omega) _, hB.setCell (by simp; omega) _⟩
          case measure => simp [intOf]; omega
      · obtain ⟨c4, c5, c6⟩ := hC.three
        obtain ⟨⟨r0, r1, r3⟩, ⟨f0, f1, f2⟩⟩ := (hR1.below hB).three'
        have hout : Hid (out = infl r2 (sqs W H xs)) := by
          have h := HU.out
          rw [show k = (sqs W H xs).length by rw [HL.out]; omega] at h
          exact h.eq (by rw [HO.out, HL.out])
        have HI : Hid ((infl r2 (sqs W H xs)).length = n) := by unfold Hid; rw [infl_len]; exact HL.out
        go_wp2
        refine bodyPost_ret (v := .tuple #[.agg #[.int .i64 W, .int .i64 H, .slice (some ⟨g2, 0, none⟩) n n], .int .i64 0]) (by simp [results, Try.results24, go_sem, r0, r1, r3]) rfl ⟨g2, by rw [HI.out], by omega, ?_, ?_⟩
        · rw [← hout.out]
          exact ((hA.far (by simp; omega) _).far (by simp; omega) _).far (by simp; omega) _
        · exact (((bstep hB1 hB).setCell (by simp) _).setCell (by simp) _).setCell (by simp) _
theorem dinfl_t (W H r2 : Int) (A : Option Addr) (n c : Nat) (xs : List Int) (w : World) (hn : n = xs.length) (hv : vldB W H xs = true) (hr : Ints w .u8 A xs) (h0 : 0 ≤ r2) (h1 : r2 ≤ 8192) :
    Calls Try.prog 24 #[.agg #[.int .i64 W, .int .i64 H, .slice A n c], .int .i64 r2] w (PlanRes W H (infl r2 (sqs W H xs)) 0 w) :=
  (dinfl_o W H r2 A n c xs w hn hv hr h0 h1).mono fun _ _ ⟨g, he, _, ha, hb⟩ => ⟨_, _, he, ha.ints, hb⟩
end Go.Proofs.Ytpanbblbcnmadaa
