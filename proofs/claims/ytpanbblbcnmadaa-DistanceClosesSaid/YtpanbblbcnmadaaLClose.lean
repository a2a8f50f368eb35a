/- Walk: the law DistanceCloses. Conditions: as each theorem states. -/
import Derived.Test.YtpanbblbcnmadaaAwake35
import Derived.Test.YtpanbblbcnmadaaMclose
import Derived.Test.YtpanbblbcnmadaaClone
import Derived.Deep.AppendLies
namespace Go.Proofs.Ytpanbblbcnmadaa
open Go.RowKit

theorem lclose_many (W H x y : Int) (A : Option Addr) (n c : Nat) (w : World) (hm : ¬ (n : Int) ≤ 200) :
    Calls Try.prog 6 #[.agg #[.int .i64 W, .int .i64 H, .slice A n c], .agg #[.int .i64 x, .int .i64 y]] w fun e w' => e = .returned (.bool true) ∧ Below w.heap.size w w' := by
  have Hd : Hid (decide ((n : Int) ≤ 200) = false) := decide_eq_false hm
  clear hm
  go_enter Try.func6, Try.ntmps6
  go_wp2_with fail
  refine (awake_any _).mono ?_
  rintro e w1 ⟨rfl, hb1⟩
  obtain ⟨hc1, hf1, hz1⟩ := after hb1
  go_wp2_with fail
  refine (few_any _ _ _ _ _ _).mono ?_
  rw [Hd.out]
  rintro e w2 ⟨rfl, hb2⟩
  go_wp2_with fail
  refine (awake_any _).mono ?_
  rintro e w3 ⟨rfl, hb3⟩
  go_wp2_with fail
  go_ret
  exact ⟨rfl, bstep (bstep (bstep (ba2 _ _ _) hb1) hb2) hb3⟩

theorem lclose_inv (W H x y : Int) (A : Option Addr) (n c : Nat) (xs : List Int) (w : World) (hn : n = xs.length) (hr : Ints w .u8 A xs) (hm : (n : Int) ≤ 200) (hv : vldB W H xs = false) :
    Calls Try.prog 6 #[.agg #[.int .i64 W, .int .i64 H, .slice A n c], .agg #[.int .i64 x, .int .i64 y]] w fun e w' => e = .returned (.bool true) ∧ Below w.heap.size w w' := by
  have Hd : Hid (decide ((n : Int) ≤ 200) = true) := decide_eq_true hm
  have Hn := hid hn
  have Hv := hid hv
  clear hm hn hv
  go_enter Try.func6, Try.ntmps6
  go_wp2_with fail
  refine (awake_any _).mono ?_
  rintro e w1 ⟨rfl, hb1⟩
  have hP1 := ((Cells.new w [.int .i64 W, .int .i64 H, .slice A n c] 24).alloc (.cells #[.int .i64 x, .int .i64 y] 35)).below hb1
  obtain ⟨p10, p11, p12⟩ := hP1.three
  go_wp2_with fail
  refine (few_any _ _ _ _ _ _).mono ?_
  rw [Hd.out]
  rintro e w2 ⟨rfl, hb2⟩
  have hB2 := bstep (bstep (ba2 w (.cells #[.int .i64 W, .int .i64 H, .slice A n c] 24) (.cells #[.int .i64 x, .int .i64 y] 35)) hb1) hb2
  obtain ⟨p20, p21, p22⟩ := (hP1.below hb2).three
  go_wp2_with fail
  refine (dsquares_f _ _ _ _ _ xs _ Hn.out Hv.out (hr.below hB2)).mono ?_
  rintro e w3 ⟨rfl, hb3⟩
  go_wp2_with fail
  go_ret
  exact ⟨rfl, bstep hB2 hb3⟩

theorem lclose_out (W H x y : Int) (A : Option Addr) (n c : Nat) (xs : List Int) (w : World) (hn : n = xs.length) (hr : Ints w .u8 A xs) (hm : (n : Int) ≤ 200) (hv : vldB W H xs = true) (hi : inB W H x y = false) :
    Calls Try.prog 6 #[.agg #[.int .i64 W, .int .i64 H, .slice A n c], .agg #[.int .i64 x, .int .i64 y]] w fun e w' => e = .returned (.bool true) ∧ Below w.heap.size w w' := by
  have Hd : Hid (decide ((n : Int) ≤ 200) = true) := decide_eq_true hm
  have Hn := hid hn
  have Hv := hid hv
  have Hi := hid hi
  have hpos := (vld_iff.1 hv).pos
  have hne : ((n : Int) == 0) = false := by simp; omega
  clear hm hn hv hi hpos
  go_enter Try.func6, Try.ntmps6
  go_wp2_with fail
  refine (awake_any _).mono ?_
  rintro e w1 ⟨rfl, hb1⟩
  have hP1 := ((Cells.new w [.int .i64 W, .int .i64 H, .slice A n c] 24).alloc (.cells #[.int .i64 x, .int .i64 y] 35)).below hb1
  have hC1 := (Cells.new' (b := w.heap.size + 1) (w.alloc (.cells #[.int .i64 W, .int .i64 H, .slice A n c] 24)) [.int .i64 x, .int .i64 y] 35 (by simp)).below hb1
  obtain ⟨p10, p11, p12⟩ := hP1.three
  go_wp2_with fail
  refine (few_any _ _ _ _ _ _).mono ?_
  rw [Hd.out]
  rintro e w2 ⟨rfl, hb2⟩
  have hB2 := bstep (bstep (ba2 w (.cells #[.int .i64 W, .int .i64 H, .slice A n c] 24) (.cells #[.int .i64 x, .int .i64 y] 35)) hb1) hb2
  obtain ⟨p20, p21, p22⟩ := (hP1.below hb2).three
  go_wp2_with fail
  refine (dsquares_t _ _ _ _ _ xs _ Hn.out (vld_iff.1 Hv.out) (hr.below hB2)).mono ?_
  rintro e w3 ⟨g, arr, hg, rfl, hl3, hR3, harr, hb3⟩
  clear hl3 hR3
  obtain ⟨p30, p31, p32⟩ := ((hP1.below hb2).below hb3).three
  obtain ⟨⟨p33, p34⟩, -⟩ := ((hC1.below hb2).below hb3).two
  go_wp2_with fail
  refine (inside_any _ _ _ _ _ _).mono ?_
  rw [Hi.out]
  rintro e w4 ⟨rfl, hb4⟩
  go_wp2_with fail
  go_ret
  exact ⟨rfl, bstep (bstep hB2 hb3) hb4⟩

theorem own_ints' {w : World} {base : Nat} {e : TypeId} {A : Option Addr} {n c : Nat} {k : IntKind} {zs : List Int} (h : w.ownsRow base e 1 (.slice A n c) n (zs.map (Value.int k))) : Ints w k A zs := by
  obtain ⟨A', c', e, hi⟩ := own_ints h
  injection e with e1
  rw [e1]; exact hi

set_option maxRecDepth 100000 in
set_option maxHeartbeats 2000000 in
theorem lclose_good (W H : Int) (X Y : Nat) (A : Option Addr) (n c : Nat) (xs : List Int) (w : World) (hn : n = xs.length) (hnil : A = none → n = 0) (hr : Ints w .u8 A xs) (hm : (n : Int) ≤ 200) (hv : vldB W H xs = true) (hi : inB W H X Y = true) :
    Calls Try.prog 6 #[.agg #[.int .i64 W, .int .i64 H, .slice A n c], .agg #[.int .i64 X, .int .i64 Y]] w fun e w' => e = .returned (.bool true) ∧ Below w.heap.size w w' := by
  have hV := vld_iff.1 hv
  have Hd : Hid (decide ((n : Int) ≤ 200) = true) := decide_eq_true hm
  have Hn := hid hn
  have Hnil := hid hnil
  have HV := hid hV
  have Hi := hid hi
  obtain ⟨i1, i2, i3, i4⟩ := inB_iff.1 hi
  obtain ⟨z1, z2, z3, z4, z5, z6, z7, z8, z9⟩ := hV.idx hi
  obtain ⟨pp1, pp2, pp3, pp4⟩ := hV.pos
  have hlen := hV.len
  have hW0 := hV.w0
  have hne : ((n : Int) != W * H) = false := by rw [hn, hlen]; simp
  have hidx : (Y : Int) * W + X < n := by omega
  have hn0 : 0 < n := by omega
  have hl : n ≤ 1073741824 := by omega
  have HLn : Hid ((sqs W H xs).length = n) := by unfold Hid; rw [sqs_len]; omega
  have HK : Hid (ix W Y X < xs.length) := z5
  have HV' := hid (vld_set hV (ix W Y X))
  have HZ := hid (sqs_zero hV i2 i4)
  have HC : Hid (∀ j, j < n → gi (sqs W H (xs.set (ix W Y X) 2)) j ≤ gi (sqs W H xs) j) := fun j hj => sqs_close hV z5 (by rw [HLn.out]; exact hj)
  clear hm hn hnil hv hi hV hlen z5 pp3 pp4
  go_enter Try.func6, Try.ntmps6
  go_wp2_with fail
  refine (awake_any _).mono ?_
  rintro e w1 ⟨rfl, hb1⟩
  have hP1 := ((Cells.new w [.int .i64 W, .int .i64 H, .slice A n c] 24).alloc (.cells #[.int .i64 X, .int .i64 Y] 35)).below hb1
  have hC1 := (Cells.new' (b := w.heap.size + 1) (w.alloc (.cells #[.int .i64 W, .int .i64 H, .slice A n c] 24)) [.int .i64 X, .int .i64 Y] 35 (by simp)).below hb1
  obtain ⟨p10, p11, p12⟩ := hP1.three
  go_wp2_with fail
  refine (few_any _ _ _ _ _ _).mono ?_
  rw [Hd.out]
  rintro e w2 ⟨rfl, hb2⟩
  have hB2 := bstep (bstep (ba2 w (.cells #[.int .i64 W, .int .i64 H, .slice A n c] 24) (.cells #[.int .i64 X, .int .i64 Y] 35)) hb1) hb2
  have hr2 := hr.below hB2
  have hP2 := hP1.below hb2
  have hC2 := hC1.below hb2
  obtain ⟨p20, p21, p22⟩ := hP2.three
  go_wp2_with fail
  refine (dsquares_t _ _ _ _ _ xs _ Hn.out HV.out hr2).mono ?_
  rintro e w3 ⟨g, arr, hg, rfl, hl3, hR3, harr3, hb3⟩
  subst hR3
  clear hl3
  have hP3 := hP2.below hb3
  have hC3 := hC2.below hb3
  have hB3 := bstep hB2 hb3
  obtain ⟨p30, p31, p32⟩ := hP3.three
  obtain ⟨⟨p33, p34⟩, -⟩ := hC3.two
  go_wp2_with fail
  refine (inside_any _ _ _ _ _ _).mono ?_
  rw [Hi.out]
  rintro e w4 ⟨rfl, hb4⟩
  have hP4 := hP3.below hb4
  have hC4 := hC3.below hb4
  have hB4 := bstep hB3 hb4
  have harr4 := harr3.below hb4
  obtain ⟨p40, p41, p42⟩ := hP4.three
  go_wp2_with fail
  refine (clone_any _ _ _ _ _ xs _ Hn.out Hnil.out hl (hr.below hB4)).mono ?_
  rintro e w5 ⟨v, rfl, hown5, hb5⟩
  rw [← Hn.out] at hown5
  obtain ⟨g5, c5, rfl, hg5, hlt5⟩ := hown5.form hn0
  have hP5 := (hP4.below hb5).alloc (.cells #[.int .i64 W, .int .i64 H, .slice (some ⟨g5, 0, none⟩) n c5] 24)
  have hC5 := (hC4.below hb5).alloc (.cells #[.int .i64 W, .int .i64 H, .slice (some ⟨g5, 0, none⟩) n c5] 24)
  have hO5 := Cells.new w5 [.int .i64 W, .int .i64 H, .slice (some ⟨g5, 0, none⟩) n c5] 24
  have harr5 := (harr4.below hb5).alloc (.cells #[.int .i64 W, .int .i64 H, .slice (some ⟨g5, 0, none⟩) n c5] 24)
  have hB5 := bstep (bstep hB4 hb5) (ba1 w5 (.cells #[.int .i64 W, .int .i64 H, .slice (some ⟨g5, 0, none⟩) n c5] 24))
  have hown6 := hown5.alloc (.cells #[.int .i64 W, .int .i64 H, .slice (some ⟨g5, 0, none⟩) n c5] 24)
  have d1 := hown6.cellAt (ix W Y X) (by have := HK.out; rw [← Hn.out] at this; omega)
  have d2 := hown6.frozenAt (ix W Y X)
  have e1 : (xs.map (Value.int .u8))[ix W Y X]? = some (.int .u8 (gi xs (ix W Y X))) := by
    have := HK.out
    simp [gi, List.getD_eq_getElem?_getD, this]
  rw [e1] at d1
  obtain ⟨p50, p51, p52⟩ := hP5.three
  obtain ⟨⟨p53, p54⟩, -⟩ := hC5.two
  unfold ix at d1 d2
  go_wp2_with fail
  have hbV : Below w4.heap.size w4 ((w5.setCell ⟨g5, ((Y : Int) * W + X).toNat, none⟩ (.int .u8 2)).alloc (.cells #[.int .i64 W, .int .i64 H, .slice (some ⟨g5, 0, none⟩) n c5] 24)) :=
    (hb5.setCell (p := ⟨g5, ((Y : Int) * W + X).toNat, none⟩) hg5 _).alloc (by simp; exact hb5.size) _
  have hownV := (hown5.stored (ix W Y X) (.int .u8 2)).1.alloc (.cells #[.int .i64 W, .int .i64 H, .slice (some ⟨g5, 0, none⟩) n c5] 24)
  rw [← List.map_set] at hownV
  have hOV := Cells.new' (b := w5.heap.size) (w5.setCell ⟨g5, ((Y : Int) * W + X).toNat, none⟩ (.int .u8 2)) [.int .i64 W, .int .i64 H, .slice (some ⟨g5, 0, none⟩) n c5] 24 (by simp)
  have hPV := hP4.below hbV
  have hCV := hC4.below hbV
  have harrV := harr4.below hbV
  have hBV := bstep hB4 hbV
  have hiV := own_ints' hownV
  clear hown5 hown6 hP5 hC5 hO5 harr5 hB5 hownV hbV
  refine (dsquares_t _ _ _ _ _ (xs.set (ix W Y X) 2) _ (by rw [List.length_set]; exact Hn.out) HV'.out hiV).mono ?_
  rintro e w6 ⟨g6, arr, hg6, rfl, hl6, hR6, harr6, hb6⟩
  subst hR6
  have HL6 := hid hl6
  clear hl6
  have harr0 := harrV.below hb6
  obtain ⟨p60, p61, p62⟩ := (hPV.below hb6).three
  obtain ⟨⟨p63, p64⟩, -⟩ := (hCV.below hb6).two
  have hB6 := bstep hBV hb6
  have hnn : ((n : Int) != (n : Int)) = false := by simp
  clear p10 p11 p12 p20 p21 p22 p30 p31 p32 p33 p34 p40 p41 p42 p50 p51 p52 p53 p54 d1 d2 e1
  go_wp2_with fail
  go_loopw [10] (fun i wr => ∃ k m : Nat, k ≤ n ∧ i = .int .i64 k ∧ wr = w6.drewN m) (fun i _ => n - (intOf i).toNat)
  case atStart => exact ⟨0, 0, by omega, rfl, rfl⟩
  case round =>
    obtain ⟨k, m, hk, rfl, rfl⟩ := hrel
    by_cases hlt : k < n
    · have c1 := harr6.cell (j := k) (by rw [HL6.out]; exact hlt)
      have c2 := harr0.cell (j := k) (by rw [HLn.out]; exact hlt)
      have hle := HC.out k hlt
      have hkI : (k : Int) < n := by omega
      go_wp2
      go_quiet (fail)
      go_wp2
      go_roundw
      case rel => exact ⟨k + 1, _, by omega, by go_num, rfl⟩
      case measure => simp [intOf]; omega
    · have c1 := harr6.cell (j := ix W Y X) (by rw [HL6.out]; have := HK.out; rw [← Hn.out] at this; exact this)
      rw [HZ.out] at c1
      unfold ix at c1
      go_wp2
      go_ret
      exact ⟨rfl, below_drewN' hB6 _⟩

theorem lclose_all (W H x y : Int) (A : Option Addr) (n c : Nat) (xs : List Int) (w : World) (hn : n = xs.length) (hnil : A = none → n = 0) (hr : Ints w .u8 A xs) :
    Calls Try.prog 6 #[.agg #[.int .i64 W, .int .i64 H, .slice A n c], .agg #[.int .i64 x, .int .i64 y]] w fun e w' => e = .returned (.bool true) ∧ Below w.heap.size w w' := by
  by_cases hm : (n : Int) ≤ 200
  · cases hv : vldB W H xs
    · exact lclose_inv _ _ _ _ _ _ _ xs _ hn hr hm hv
    · cases hi : inB W H x y
      · exact lclose_out _ _ _ _ _ _ _ xs _ hn hr hm hv hi
      · obtain ⟨i1, i2, i3, i4⟩ := inB_iff.1 hi
        obtain ⟨X, rfl⟩ : ∃ X : Nat, x = X := ⟨x.toNat, by omega⟩
        obtain ⟨Y, rfl⟩ : ∃ Y : Nat, y = Y := ⟨y.toNat, by omega⟩
        exact lclose_good _ _ _ _ _ _ _ xs _ hn hnil hr hm hv hi
  · exact lclose_many _ _ _ _ _ _ _ _ hm
end Go.Proofs.Ytpanbblbcnmadaa
