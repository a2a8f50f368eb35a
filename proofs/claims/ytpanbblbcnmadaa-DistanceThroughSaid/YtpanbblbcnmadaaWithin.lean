/- Walks: the near cells (distance.Within, wayfinderref35.Within). Conditions: as each theorem states. -/
import Derived.Test.YtpanbblbcnmadaaPlan
import Derived.Test.YtpanbblbcnmadaaPlan2
import Derived.Test.YtpanbblbcnmadaaBase5
namespace Go.Proofs.Ytpanbblbcnmadaa
open Go.RowKit

/-- The near cells of row y with x below k, and of the rows below k. -/
def wrow (cx cy r2 : Int) (y k : Nat) : List (Int × Int) := ((List.range k).filter fun (x : Nat) => decide (farI cx cy x y ≤ r2)).map fun (x : Nat) => ((x : Int), (y : Int))
def wgrid (W : Nat) (cx cy r2 : Int) (k : Nat) : List (Int × Int) := (List.range k).flatMap fun y => wrow cx cy r2 y W
theorem wrow_succ (cx cy r2 : Int) (y k : Nat) : wrow cx cy r2 y (k + 1) = wrow cx cy r2 y k ++ if farI cx cy k y ≤ r2 then [((k : Int), (y : Int))] else [] := by
  unfold wrow
  rw [List.range_succ, List.filter_append, List.map_append]
  congr 1
  by_cases h : farI cx cy k y ≤ r2
  · simp [h]
  · simp [h]
theorem wgrid_succ (W : Nat) (cx cy r2 : Int) (k : Nat) : wgrid W cx cy r2 (k + 1) = wgrid W cx cy r2 k ++ wrow cx cy r2 k W := by
  simp [wgrid, List.range_succ]
theorem wrow_len (cx cy r2 : Int) (y k : Nat) : (wrow cx cy r2 y k).length ≤ k := by
  unfold wrow
  rw [List.length_map]
  exact Nat.le_trans (List.length_filter_le _ _) (by simp)
theorem wgrid_len (W : Nat) (cx cy r2 : Int) (k : Nat) : (wgrid W cx cy r2 k).length ≤ k * W := by
  induction k with
  | zero => simp [wgrid]
  | succ k ih =>
    rw [wgrid_succ, List.length_append, Nat.succ_mul]
    have := wrow_len cx cy r2 k W
    omega

theorem cellInfo : (Try.prog.info? 35).map (fun i => (i.zero, i.size, i.bytes)) = some (some (.agg #[.int .i64 0, .int .i64 0]), 2, 16) := by kernel_rfl

/-- Cells and an error number are returned. -/
def PtsRes (cs : List (Int × Int)) (q : Int) (w : World) (e : Ending) (w' : World) : Prop :=
  ∃ A c, e = .returned (.tuple #[.slice A cs.length c, .int .i64 q]) ∧ Pts w' A cs ∧ Below w.heap.size w w'

theorem dwithin_inv (W H x y r2 : Int) (A : Option Addr) (n c : Nat) (xs : List Int) (w : World) (hn : n = xs.length) (hv : vldB W H xs = false) (hr : Ints w .u8 A xs) :
    Calls Try.prog 26 #[.agg #[.int .i64 W, .int .i64 H, .slice A n c], .agg #[.int .i64 x, .int .i64 y], .int .i64 r2] w (PtsRes [] 1 w) := by
  have Hn := hid hn
  have Hv := hid hv
  clear hn hv
  go_enter Try.func26, Try.ntmps26
  go_wp2_with fail
  refine (valid_f _ _ _ _ _ xs _ Hn.out Hv.out ((hr.alloc _).alloc _)).mono ?_
  rintro e w1 ⟨rfl, hb1⟩
  go_wp2_with fail
  go_ret2
  exact ⟨_, _, rfl, .inl rfl, bstep (ba2 w _ _) hb1⟩

theorem dwithin_out (W H x y r2 : Int) (A : Option Addr) (n c : Nat) (xs : List Int) (w : World) (hn : n = xs.length) (hv : vldB W H xs = true) (hi : inB W H x y = false) (hr : Ints w .u8 A xs) :
    Calls Try.prog 26 #[.agg #[.int .i64 W, .int .i64 H, .slice A n c], .agg #[.int .i64 x, .int .i64 y], .int .i64 r2] w (PtsRes [] 7 w) := by
  have Hn := hid hn
  have Hv := hid hv
  have Hi := hid hi
  clear hn hv hi
  go_enter Try.func26, Try.ntmps26
  go_wp2_with fail
  refine (valid_t _ _ _ _ _ xs _ Hn.out Hv.out ((hr.alloc _).alloc _)).mono ?_
  rintro e w1 ⟨rfl, hb1⟩
  obtain ⟨hc1, hf1, hz1⟩ := after hb1
  go_wp2_with fail
  refine (dinside_any _ _ _ _ _ _).mono ?_
  rw [Hi.out]
  rintro e w2 ⟨rfl, hb2⟩
  go_wp2_with fail
  go_ret2
  exact ⟨_, _, rfl, .inl rfl, bstep (bstep (ba2 w _ _) hb1) hb2⟩

theorem dwithin_range (W H x y r2 : Int) (A : Option Addr) (n c : Nat) (xs : List Int) (w : World) (hn : n = xs.length) (hv : vldB W H xs = true) (hi : inB W H x y = true) (hr : Ints w .u8 A xs) (hr2 : r2 < 0 ∨ ¬ r2 < 0 ∧ 8192 < r2) :
    Calls Try.prog 26 #[.agg #[.int .i64 W, .int .i64 H, .slice A n c], .agg #[.int .i64 x, .int .i64 y], .int .i64 r2] w (PtsRes [] 2 w) := by
  have Hn := hid hn
  have Hv := hid hv
  have Hi := hid hi
  clear hn hv hi
  rcases hr2 with h1 | ⟨h1, h2⟩
  all_goals
    go_enter Try.func26, Try.ntmps26
    go_wp2_with fail
    refine (valid_t _ _ _ _ _ xs _ Hn.out Hv.out ((hr.alloc _).alloc _)).mono ?_
    rintro e w1 ⟨rfl, hb1⟩
    obtain ⟨hc1, hf1, hz1⟩ := after hb1
    go_wp2_with fail
    refine (dinside_any _ _ _ _ _ _).mono ?_
    rw [Hi.out]
    rintro e w2 ⟨rfl, hb2⟩
    go_wp2_with fail
    go_ret2
    exact ⟨_, _, rfl, .inl rfl, bstep (bstep (ba2 w _ _) hb1) hb2⟩

set_option maxHeartbeats 1000000 in
theorem dwithin_t (W H x y r2 : Int) (A : Option Addr) (n c : Nat) (xs : List Int) (w : World) (hn : n = xs.length) (hv : vldB W H xs = true) (hi : inB W H x y = true) (hr : Ints w .u8 A xs) (h0 : 0 ≤ r2) (h1 : r2 ≤ 8192) :
    Calls Try.prog 26 #[.agg #[.int .i64 W, .int .i64 H, .slice A n c], .agg #[.int .i64 x, .int .i64 y], .int .i64 r2] w (PtsRes (wgrid W.toNat x y r2 H.toNat) 0 w) := by
  have hV := vld_iff.1 hv
  obtain ⟨h, rfl⟩ : ∃ h : Nat, H = h := ⟨H.toNat, by have := hV.h0; omega⟩
  obtain ⟨m, rfl⟩ : ∃ m : Nat, W = m := ⟨W.toNat, by have := hV.w0; omega⟩
  have hW1 := hV.w1
  have hH1 := hV.h1
  obtain ⟨j1, j2, j3, j4⟩ := inB_iff.1 hi
  have Hn := hid hn
  have Hv := hid hv
  have Hi := hid hi
  rw [Int.toNat_natCast, Int.toNat_natCast]
  obtain ⟨i0, hi0, hz0, hz1, hz2⟩ := info_parts cellInfo
  have HI := hid hi0
  have Hz0 := hid hz0
  have Hz1 := hid hz1
  have Hz2 := hid hz2
  clear hn hv hi hi0 hz0 hz1 hz2 hV
  go_enter Try.func26, Try.ntmps26
  go_wp2_with fail
  refine (valid_t _ _ _ _ _ xs _ Hn.out Hv.out ((hr.alloc _).alloc _)).mono ?_
  rintro e w1 ⟨rfl, hb1⟩
  have hP1 := ((Cells.new w [.int .i64 m, .int .i64 h, .slice A n c] 24).alloc (.cells #[.int .i64 x, .int .i64 y] 35)).below hb1
  have hC1 := (Cells.new' (b := w.heap.size + 1) (w.alloc (.cells #[.int .i64 m, .int .i64 h, .slice A n c] 24)) [.int .i64 x, .int .i64 y] 35 (by simp)).below hb1
  obtain ⟨p10, p11, p12⟩ := hP1.three
  obtain ⟨⟨p13, p14⟩, -⟩ := hC1.two
  go_wp2_with fail
  refine (dinside_any _ _ _ _ _ _).mono ?_
  rw [Hi.out]
  rintro e w2 ⟨rfl, hb2⟩
  have hP2 := hP1.below hb2
  have hC2 := hC1.below hb2
  have hB2 := bstep (bstep (ba2 w (.cells #[.int .i64 m, .int .i64 h, .slice A n c] 24) (.cells #[.int .i64 x, .int .i64 y] 35)) hb1) hb2
  obtain ⟨p20, p21, p22⟩ := hP2.three
  clear hP1 hC1 p10 p11 p12 p13 p14
  go_wp2
  clear p20 p21 p22
  go_loopw [8, 27] (fun v yy wr => ∃ k : Nat, k ≤ h ∧ yy = .int .i64 k ∧ wr.ownsRow w2.heap.size 35 2 v (wgrid m x y r2 k).length (enc2 (wgrid m x y r2 k)) ∧ Below w2.heap.size w2 wr) (fun _ yy _ => h - (intOf yy).toNat)
  case atStart => exact ⟨0, by omega, rfl, World.ownsRow_nil _ _ _ _, Below.refl _ _⟩
  case round =>
    obtain ⟨k, hk, rfl, hown, hbr⟩ := hrel
    obtain ⟨p0, p1, p2⟩ := (hP2.below hbr).three
    by_cases hlt : k < h
    · go_wp2
      obtain ⟨wo, hwo⟩ : ∃ wo : World, wo = wr := ⟨_, rfl⟩
      rw [← hwo] at hbr hown ⊢
      clear hwo p0 p1 p2
      go_loopw [8, 32] (fun v xx wr => ∃ j : Nat, j ≤ m ∧ xx = .int .i64 j ∧ wr.ownsRow w2.heap.size 35 2 v (wgrid m x y r2 k ++ wrow x y r2 k j).length (enc2 (wgrid m x y r2 k ++ wrow x y r2 k j)) ∧ Below w2.heap.size w2 wr) (fun _ xx _ => m - (intOf xx).toNat)
      case atStart => exact ⟨0, by omega, rfl, by simpa [wrow] using hown, hbr⟩
      case round =>
        clear hown hbr
        obtain ⟨j, hj, rfl, hown, hbr⟩ := hrel
        obtain ⟨p0, p1, p2⟩ := (hP2.below hbr).three
        obtain ⟨⟨p3, p4⟩, -⟩ := (hC2.below hbr).two
        have hgP := (hP2.below hbr).lt
        have hgC := (hC2.below hbr).lt
        by_cases hltj : j < m
        · have HD : Hid (-4096 ≤ x - (j : Int) ∧ x - (j : Int) ≤ 4096 ∧ -4096 ≤ y - (k : Int) ∧ y - (k : Int) ≤ 4096) := by unfold Hid; omega
          by_cases hle : farI x y j k ≤ r2
          · have HS : Hid (wgrid m x y r2 k ++ wrow x y r2 k (j + 1) = (wgrid m x y r2 k ++ wrow x y r2 k j) ++ [((j : Int), (k : Int))]) := by
              unfold Hid; rw [wrow_succ, if_pos hle, List.append_assoc]
            have hlen : (wgrid m x y r2 k ++ wrow x y r2 k j).length ≤ 8192 := by
              have l1 := wgrid_len m x y r2 k
              have l2 := wrow_len x y r2 k j
              have l3 : k * m ≤ 64 * 64 := Nat.mul_le_mul (by omega) (by omega)
              rw [List.length_append]; omega
            go_wp2_with fail
            refine (apart_any _ _ _ _ _ HD.out).mono ?_
            rintro e w3 ⟨rfl, hb3⟩
            have hD3 := (Cells.new wr [.int .i64 j, .int .i64 k] 35).below hb3
            obtain ⟨⟨d0, d1⟩, -⟩ := hD3.two
            have hown3 := (own_below (hown.alloc (.cells #[.int .i64 j, .int .i64 k] 35)) hb3).alloc (.cells #[.int .i64 j, .int .i64 k] 35)
            have hB4 := bstep (bstep (bstep hbr (ba1 wr (.cells #[.int .i64 j, .int .i64 k] 35))) hb3) (ba1 w3 (.cells #[.int .i64 j, .int .i64 k] 35))
            have hs4 := hB4.size
            go_wp2_with (at_builtin; refine wpList_append_own _ rfl (.tmp 43) (.tmp 45) 45 rfl w2.heap.size 35 i0 (.agg #[.int .i64 0, .int .i64 0]) 2 16 Try.underlying45 HI.out Hz0.out Hz1.out Hz2.out rfl (by omega) _ (wgrid m x y r2 k ++ wrow x y r2 k j).length _ rfl hown3 ⟨w3.heap.size, 0, none⟩ 1 1 [.int .i64 j, .int .i64 k] (by simp [Act.eval]) rfl (cell_two_new' _ _ _ _) (enc2_one [((j : Int), (k : Int))]) ?_ ?_ hs4 ?_; (simp only [maxLen]; omega); omega; intro v' w4 hown4 hg4 _)
            go_roundw
            case rel => exact ⟨j + 1, by omega, by go_num, by rw [HS.out, enc2_append, List.length_append]; exact hown4, below_own hB4 hown3 (Nat.le_refl _) hs4 hg4⟩
            case measure => simp [intOf]; omega
          · have HS : Hid (wgrid m x y r2 k ++ wrow x y r2 k (j + 1) = wgrid m x y r2 k ++ wrow x y r2 k j) := by
              unfold Hid; rw [wrow_succ, if_neg hle, List.append_nil]
            go_wp2_with fail
            refine (apart_any _ _ _ _ _ HD.out).mono ?_
            rintro e w3 ⟨rfl, hb3⟩
            go_wp2
            go_roundw
            case rel => exact ⟨j + 1, by omega, by go_num, by rw [HS.out]; exact own_below (hown.alloc _) hb3, bstep (bstep hbr (ba1 wr _)) hb3⟩
            case measure => simp [intOf]; omega
        · have HE : Hid (wgrid m x y r2 (k + 1) = wgrid m x y r2 k ++ wrow x y r2 k j) := by
            unfold Hid; rw [wgrid_succ, show j = m by omega]
          go_wp2
          go_roundw
          case rel => exact ⟨k + 1, by omega, by go_num, by rw [HE.out]; exact hown, hbr⟩
          case measure => simp [intOf]; omega
    · have HE : Hid (k = h) := by unfold Hid; omega
      go_wp2
      go_ret2
      have hown' := hown
      rw [HE.out] at hown'
      obtain ⟨A', c', rfl, hp⟩ := own_pts hown'
      exact ⟨A', c', rfl, hp, bstep hB2 hbr⟩
theorem rwithin_inv (W H x y r2 : Int) (A : Option Addr) (n c : Nat) (xs : List Int) (w : World) (hn : n = xs.length) (hv : vldB W H xs = false) (hr : Ints w .u8 A xs) :
    Calls Try.prog 27 #[.agg #[.int .i64 W, .int .i64 H, .slice A n c], .agg #[.int .i64 x, .int .i64 y], .int .i64 r2] w (PtsRes [] 1 w) := by
  have Hn := hid hn
  have Hv := hid hv
  clear hn hv
  go_enter Try.func27, Try.ntmps27
  go_wp2_with fail
  refine (rplan_f _ _ _ _ _ xs _ Hn.out Hv.out ((hr.alloc _).alloc _)).mono ?_
  rintro e w1 ⟨rfl, hb1⟩
  go_wp2_with fail
  go_ret2
  exact ⟨_, _, rfl, .inl rfl, bstep (ba2 w _ _) hb1⟩

theorem rwithin_out (W H x y r2 : Int) (A : Option Addr) (n c : Nat) (xs : List Int) (w : World) (hn : n = xs.length) (hv : vldB W H xs = true) (hi : inB W H x y = false) (hr : Ints w .u8 A xs) :
    Calls Try.prog 27 #[.agg #[.int .i64 W, .int .i64 H, .slice A n c], .agg #[.int .i64 x, .int .i64 y], .int .i64 r2] w (PtsRes [] 7 w) := by
  have Hn := hid hn
  have Hv := hid hv
  have Hi := hid hi
  clear hn hv hi
  go_enter Try.func27, Try.ntmps27
  go_wp2_with fail
  refine (rplan_t _ _ _ _ _ xs _ Hn.out Hv.out ((hr.alloc _).alloc _)).mono ?_
  rintro e w1 ⟨rfl, hb1⟩
  obtain ⟨hc1, hf1, hz1⟩ := after hb1
  go_wp2_with fail
  refine (inside_any _ _ _ _ _ _).mono ?_
  rw [Hi.out]
  rintro e w2 ⟨rfl, hb2⟩
  go_wp2_with fail
  go_ret2
  exact ⟨_, _, rfl, .inl rfl, bstep (bstep (ba2 w _ _) hb1) hb2⟩

theorem rwithin_range (W H x y r2 : Int) (A : Option Addr) (n c : Nat) (xs : List Int) (w : World) (hn : n = xs.length) (hv : vldB W H xs = true) (hi : inB W H x y = true) (hr : Ints w .u8 A xs) (hr2 : r2 < 0 ∨ ¬ r2 < 0 ∧ 8192 < r2) :
    Calls Try.prog 27 #[.agg #[.int .i64 W, .int .i64 H, .slice A n c], .agg #[.int .i64 x, .int .i64 y], .int .i64 r2] w (PtsRes [] 2 w) := by
  have Hn := hid hn
  have Hv := hid hv
  have Hi := hid hi
  clear hn hv hi
  rcases hr2 with h1 | ⟨h1, h2⟩
  all_goals
    go_enter Try.func27, Try.ntmps27
    go_wp2_with fail
    refine (rplan_t _ _ _ _ _ xs _ Hn.out Hv.out ((hr.alloc _).alloc _)).mono ?_
    rintro e w1 ⟨rfl, hb1⟩
    obtain ⟨hc1, hf1, hz1⟩ := after hb1
    go_wp2_with fail
    refine (inside_any _ _ _ _ _ _).mono ?_
    rw [Hi.out]
    rintro e w2 ⟨rfl, hb2⟩
    go_wp2_with fail
    go_ret2
    exact ⟨_, _, rfl, .inl rfl, bstep (bstep (ba2 w _ _) hb1) hb2⟩

set_option maxHeartbeats 1000000 in
theorem rwithin_t (W H x y r2 : Int) (A : Option Addr) (n c : Nat) (xs : List Int) (w : World) (hn : n = xs.length) (hv : vldB W H xs = true) (hi : inB W H x y = true) (hr : Ints w .u8 A xs) (h0 : 0 ≤ r2) (h1 : r2 ≤ 8192) :
    Calls Try.prog 27 #[.agg #[.int .i64 W, .int .i64 H, .slice A n c], .agg #[.int .i64 x, .int .i64 y], .int .i64 r2] w (PtsRes (wgrid W.toNat x y r2 H.toNat) 0 w) := by
  have hV := vld_iff.1 hv
  obtain ⟨h, rfl⟩ : ∃ h : Nat, H = h := ⟨H.toNat, by have := hV.h0; omega⟩
  obtain ⟨m, rfl⟩ : ∃ m : Nat, W = m := ⟨W.toNat, by have := hV.w0; omega⟩
  have hW1 := hV.w1
  have hH1 := hV.h1
  obtain ⟨j1, j2, j3, j4⟩ := inB_iff.1 hi
  have Hn := hid hn
  have Hv := hid hv
  have Hi := hid hi
  rw [Int.toNat_natCast, Int.toNat_natCast]
  obtain ⟨i0, hi0, hz0, hz1, hz2⟩ := info_parts cellInfo
  have HI := hid hi0
  have Hz0 := hid hz0
  have Hz1 := hid hz1
  have Hz2 := hid hz2
  clear hn hv hi hi0 hz0 hz1 hz2 hV
  go_enter Try.func27, Try.ntmps27
  go_wp2_with fail
  refine (rplan_t _ _ _ _ _ xs _ Hn.out Hv.out ((hr.alloc _).alloc _)).mono ?_
  rintro e w1 ⟨rfl, hb1⟩
  have hP1 := ((Cells.new w [.int .i64 m, .int .i64 h, .slice A n c] 24).alloc (.cells #[.int .i64 x, .int .i64 y] 35)).below hb1
  have hC1 := (Cells.new' (b := w.heap.size + 1) (w.alloc (.cells #[.int .i64 m, .int .i64 h, .slice A n c] 24)) [.int .i64 x, .int .i64 y] 35 (by simp)).below hb1
  obtain ⟨p10, p11, p12⟩ := hP1.three
  obtain ⟨⟨p13, p14⟩, -⟩ := hC1.two
  go_wp2_with fail
  refine (inside_any _ _ _ _ _ _).mono ?_
  rw [Hi.out]
  rintro e w2 ⟨rfl, hb2⟩
  have hP2 := hP1.below hb2
  have hC2 := hC1.below hb2
  have hB2 := bstep (bstep (ba2 w (.cells #[.int .i64 m, .int .i64 h, .slice A n c] 24) (.cells #[.int .i64 x, .int .i64 y] 35)) hb1) hb2
  obtain ⟨p20, p21, p22⟩ := hP2.three
  clear hP1 hC1 p10 p11 p12 p13 p14
  go_wp2
  clear p20 p21 p22
  go_loopw [8, 9] (fun v yy wr => ∃ k : Nat, k ≤ h ∧ yy = .int .i64 k ∧ wr.ownsRow w2.heap.size 35 2 v (wgrid m x y r2 k).length (enc2 (wgrid m x y r2 k)) ∧ Below w2.heap.size w2 wr) (fun _ yy _ => h - (intOf yy).toNat)
  case atStart => exact ⟨0, by omega, rfl, World.ownsRow_nil _ _ _ _, Below.refl _ _⟩
  case round =>
    obtain ⟨k, hk, rfl, hown, hbr⟩ := hrel
    obtain ⟨p0, p1, p2⟩ := (hP2.below hbr).three
    by_cases hlt : k < h
    · go_wp2
      obtain ⟨wo, hwo⟩ : ∃ wo : World, wo = wr := ⟨_, rfl⟩
      rw [← hwo] at hbr hown ⊢
      clear hwo p0 p1 p2
      go_loopw [8, 10] (fun v xx wr => ∃ j : Nat, j ≤ m ∧ xx = .int .i64 j ∧ wr.ownsRow w2.heap.size 35 2 v (wgrid m x y r2 k ++ wrow x y r2 k j).length (enc2 (wgrid m x y r2 k ++ wrow x y r2 k j)) ∧ Below w2.heap.size w2 wr) (fun _ xx _ => m - (intOf xx).toNat)
      case atStart => exact ⟨0, by omega, rfl, by simpa [wrow] using hown, hbr⟩
      case round =>
        clear hown hbr
        obtain ⟨j, hj, rfl, hown, hbr⟩ := hrel
        obtain ⟨p0, p1, p2⟩ := (hP2.below hbr).three
        obtain ⟨⟨p3, p4⟩, -⟩ := (hC2.below hbr).two
        have hgP := (hP2.below hbr).lt
        have hgC := (hC2.below hbr).lt
        by_cases hltj : j < m
        · have HD : Hid (-4096 ≤ x - (j : Int) ∧ x - (j : Int) ≤ 4096 ∧ -4096 ≤ y - (k : Int) ∧ y - (k : Int) ≤ 4096) := by unfold Hid; omega
          by_cases hle : farI x y j k ≤ r2
          · have HS : Hid (wgrid m x y r2 k ++ wrow x y r2 k (j + 1) = (wgrid m x y r2 k ++ wrow x y r2 k j) ++ [((j : Int), (k : Int))]) := by
              unfold Hid; rw [wrow_succ, if_pos hle, List.append_assoc]
            have hlen : (wgrid m x y r2 k ++ wrow x y r2 k j).length ≤ 8192 := by
              have l1 := wgrid_len m x y r2 k
              have l2 := wrow_len x y r2 k j
              have l3 : k * m ≤ 64 * 64 := Nat.mul_le_mul (by omega) (by omega)
              rw [List.length_append]; omega
            go_wp2_with fail
            refine (far_any _ _ _ _ _ HD.out).mono ?_
            rintro e w3 ⟨rfl, hb3⟩
            have hD3 := (Cells.new wr [.int .i64 j, .int .i64 k] 35).below hb3
            obtain ⟨⟨d0, d1⟩, -⟩ := hD3.two
            have hown3 := (own_below (hown.alloc (.cells #[.int .i64 j, .int .i64 k] 35)) hb3).alloc (.cells #[.int .i64 j, .int .i64 k] 35)
            have hB4 := bstep (bstep (bstep hbr (ba1 wr (.cells #[.int .i64 j, .int .i64 k] 35))) hb3) (ba1 w3 (.cells #[.int .i64 j, .int .i64 k] 35))
            have hs4 := hB4.size
            go_wp2_with (at_builtin; refine wpList_append_own _ rfl (.tmp 45) (.tmp 47) 45 rfl w2.heap.size 35 i0 (.agg #[.int .i64 0, .int .i64 0]) 2 16 Try.underlying45 HI.out Hz0.out Hz1.out Hz2.out rfl (by omega) _ (wgrid m x y r2 k ++ wrow x y r2 k j).length _ rfl hown3 ⟨w3.heap.size, 0, none⟩ 1 1 [.int .i64 j, .int .i64 k] (by simp [Act.eval]) rfl (cell_two_new' _ _ _ _) (enc2_one [((j : Int), (k : Int))]) ?_ ?_ hs4 ?_; (simp only [maxLen]; omega); omega; intro v' w4 hown4 hg4 _)
            go_roundw
            case rel => exact ⟨j + 1, by omega, by go_num, by rw [HS.out, enc2_append, List.length_append]; exact hown4, below_own hB4 hown3 (Nat.le_refl _) hs4 hg4⟩
            case measure => simp [intOf]; omega
          · have HS : Hid (wgrid m x y r2 k ++ wrow x y r2 k (j + 1) = wgrid m x y r2 k ++ wrow x y r2 k j) := by
              unfold Hid; rw [wrow_succ, if_neg hle, List.append_nil]
            go_wp2_with fail
            refine (far_any _ _ _ _ _ HD.out).mono ?_
            rintro e w3 ⟨rfl, hb3⟩
            go_wp2
            go_roundw
            case rel => exact ⟨j + 1, by omega, by go_num, by rw [HS.out]; exact own_below (hown.alloc _) hb3, bstep (bstep hbr (ba1 wr _)) hb3⟩
            case measure => simp [intOf]; omega
        · have HE : Hid (wgrid m x y r2 (k + 1) = wgrid m x y r2 k ++ wrow x y r2 k j) := by
            unfold Hid; rw [wgrid_succ, show j = m by omega]
          go_wp2
          go_roundw
          case rel => exact ⟨k + 1, by omega, by go_num, by rw [HE.out]; exact hown, hbr⟩
          case measure => simp [intOf]; omega
    · have HE : Hid (k = h) := by unfold Hid; omega
      go_wp2
      go_ret2
      have hown' := hown
      rw [HE.out] at hown'
      obtain ⟨A', c', rfl, hp⟩ := own_pts hown'
      exact ⟨A', c', rfl, hp, bstep hB2 hbr⟩
end Go.Proofs.Ytpanbblbcnmadaa
