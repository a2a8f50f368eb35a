/- Walk: distance.columns of a valid plan. Conditions: as the theorem states. -/
import Derived.Test.YtpanbblbcnmadaaPlan
import Derived.Test.YtpanbblbcnmadaaMcols
import Derived.StillTailTactics
namespace Go.Proofs.Ytpanbblbcnmadaa
open Go.RowKit

theorem intInfo : (Try.prog.info? 3).map (fun i => (i.zero, i.size, i.bytes)) = some (some (.int .i64 0), 1, 8) := by kernel_rfl

/-- A new row of numbers is returned, of which R holds; nothing else has turned. -/
def NewRow (n : Nat) (R : List Int → Prop) (w : World) (e : Ending) (w' : World) : Prop :=
  ∃ (g : Nat) (arr : List Int), w.heap.size ≤ g ∧ e = .returned (.slice (some ⟨g, 0, none⟩) n n) ∧ arr.length = n ∧ R arr ∧ Arr w' g 3 .i64 arr ∧ Below w.heap.size w w'

set_option maxRecDepth 100000 in
set_option maxHeartbeats 2000000 in
theorem columns_any (W H : Int) (A : Option Addr) (n c : Nat) (xs : List Int) (w : World) (hn : n = xs.length) (hv : Vld W H xs) (hr : Ints w .u8 A xs) :
    Calls Try.prog 46 #[.agg #[.int .i64 W, .int .i64 H, .slice A n c]] w (NewRow n (fun arr => Done W H.toNat xs arr W.toNat) w) := by
  obtain ⟨hp1, hp2, hp3, hp4⟩ := hv.pos
  obtain ⟨b, off, rfl, hc⟩ := hr.open hp3
  have hlen := hv.len
  have hW0 := hv.w0
  have hW1 := hv.w1
  obtain ⟨h, rfl⟩ : ∃ h : Nat, H = h := ⟨H.toNat, by have := hv.h0; omega⟩
  have hH1 := hv.h1
  rw [← hn] at hc hlen
  have Hn := hid hn
  have hn2 : n ≤ 4096 := by omega
  have hnWH : (n : Int) ≤ W * h := by omega
  have hnWH' : W * h ≤ (n : Int) := by omega
  clear hn hlen hp3 hp4 hv
  have hmk := fun W => run_make_row' (P := Try.prog) 28 3 (.int .i64 0) 8 Try.underlying28 intInfo rfl .i64 .i64 n (by omega) (by omega) W
  go_enter Try.func46, Try.ntmps46
  go_wp2
  clear hmk
  have hr1 : Ints (w.alloc (.cells #[.int .i64 W, .int .i64 h, .slice (some ⟨b, off, none⟩) n c] 24)) .u8 (some ⟨b, off, none⟩) xs := hr.alloc _
  obtain ⟨w1, hw1⟩ : ∃ w1, w1 = w.alloc (.cells #[.int .i64 W, .int .i64 h, .slice (some ⟨b, off, none⟩) n c] 24) := ⟨_, rfl⟩
  have hP1 : Cells w1 w.heap.size [.int .i64 W, .int .i64 h, .slice (some ⟨b, off, none⟩) n c] := by rw [hw1]; exact Cells.new w _ _
  have hz1 : w1.heap.size = w.heap.size + 1 := by rw [hw1]; simp
  have hB1 : Below w.heap.size w w1 := by rw [hw1]; exact ba1 _ _
  rw [← hw1] at hr1 ⊢
  have hcell : ∀ {wr : World}, Below w1.heap.size w1 wr → ∀ j, j < n → wr.cell? ⟨b, off + j, none⟩ = some (.int .u8 (gi xs j)) := fun hb j hj => cell_below (by rw [hw1]; exact cell_alloc (hc j hj) _) hb
  have Hz1 := hid hz1
  have hz1' : w1.heap.size ≤ w.heap.size + 1 := by omega
  clear hw1 hc hr hr1 hz1
  go_loopw [4, 5, 14] (fun _ _ i wr => ∃ (k : Nat) (arr : List Int), (k : Int) ≤ W ∧ i = .int .i64 k ∧ Hid (arr.length = n) ∧ Hid (Done W h xs arr k) ∧ Below w1.heap.size w1 wr ∧ Arr wr (w.heap.size + 1) 3 .i64 arr) (fun _ _ i _ => (W - intOf i).toNat)
  case atStart =>
    refine ⟨0, List.replicate n 0, by omega, rfl, by simp [Hid], fun y x' hx' => absurd hx' (by omega), ba1 _ _, ?_⟩
    rw [← Hz1.out]; exact Arr.made _ _ _ _
  case round =>
    obtain ⟨k, arr, hk, rfl, HL, HD, hbr, har⟩ := hrel
    obtain ⟨p0, p1, p2⟩ := (hP1.below hbr).three
    by_cases hlt : (k : Int) < W
    · go_wp2
      obtain ⟨wo, hwo⟩ : ∃ wo : World, wo = wr := ⟨_, rfl⟩
      rw [← hwo] at hbr har ⊢
      clear hwo
      go_loopw [5, 6, 19] (fun l _ i wr => ∃ (j : Nat) (arr : List Int), (j : Int) ≤ h ∧ i = .int .i64 j ∧ l = .int .i64 (fwd W xs k j) ∧ Hid (arr.length = n) ∧ Hid (Down W h xs arr k j) ∧ Below w1.heap.size w1 wr ∧ Arr wr (w.heap.size + 1) 3 .i64 arr) (fun _ _ i _ => (h - intOf i).toNat)
      case atStart => exact ⟨0, arr, by omega, rfl, rfl, HL, Down.zero HD.out, hbr, har⟩
      case round =>
        clear p0 p1 p2 hbr har HL HD arr
        obtain ⟨j, arr, hj, rfl, rfl, HL, HD, hbr, har⟩ := hrel
        obtain ⟨p0, p1, p2⟩ := (hP1.below hbr).three
        by_cases hltj : (j : Int) < h
        · obtain ⟨q0, q1, q2⟩ := ix_lt hlt hltj
          have hixn : ix W j k < n := by omega
          have c0 := hcell hbr _ hixn
          have c1 := har.cell (j := ix W j k) (by rw [HL.out]; exact hixn)
          have c2 := har.frozen (ix W j k)
          have hfs : Hid (fwd W xs k (j + 1) = if gi xs (ix W j k) = 1 then fwd W xs k j + 1 else 0) := rfl
          have hset := fun hv => Down.step HD.out hlt (by rw [HL.out]; exact hixn) (fwd W xs k (j + 1)) hv
          have Hset := hid (hset rfl)
          have Harr := hid (har.set (ix W j k) (fwd W xs k (j + 1)))
          have HL' : Hid ((arr.set (ix W j k) (fwd W xs k (j + 1))).length = n) := by unfold Hid; rw [List.length_set]; exact HL.out
          have hbs : Hid (Below w1.heap.size w1 (wr.setCell ⟨w.heap.size + 1, ix W j k, none⟩ (.int .i64 (fwd W xs k (j + 1))))) := hbr.setCell (by simp; omega) _
          obtain ⟨f0, f1⟩ := fwd_bd W xs k j
          clear hset
          unfold ix at c0 c1 c2
          cases hq : (gi xs ((j : Int) * W + k).toNat != 1)
          · have hv : Hid (fwd W xs k (j + 1) = fwd W xs k j + 1) := by
              unfold Hid; rw [hfs.out]; unfold ix; rw [if_pos (by simpa using hq)]
            rw [hv.out] at Hset Harr HL' hbs
            unfold ix at Hset Harr HL' hbs
            clear hfs hP1
            go_wp2
            go_roundw
            case rel => exact ⟨j + 1, _, by omega, by go_num, by rw [hv.out], HL', Hset, hbs.out, Harr.out⟩
            case measure => simp [intOf]; omega
          · have hv : Hid (fwd W xs k (j + 1) = 0) := by
              unfold Hid; rw [hfs.out]; unfold ix; rw [if_neg (by simpa using hq)]
            rw [hv.out] at Hset Harr HL' hbs
            unfold ix at Hset Harr HL' hbs
            clear hfs hP1
            go_wp2
            go_roundw
            case rel => exact ⟨j + 1, _, by omega, by go_num, by rw [hv.out], HL', Hset, hbs.out, Harr.out⟩
            case measure => simp [intOf]; omega
        · have hjh : j = h := by omega
          have HD' : Hid (Down W h xs arr k h) := by have := HD.out; rwa [hjh] at this
          clear HD hjh
          go_wp2
          obtain ⟨wo, hwo⟩ : ∃ wo : World, wo = wr := ⟨_, rfl⟩
          rw [← hwo] at hbr har ⊢
          clear hwo p0 p1 p2
          go_loopw [5, 7] (fun l yy wr => ∃ (j : Nat) (arr : List Int), (j : Int) ≤ h ∧ yy = .int .i64 ((h : Int) - 1 - j) ∧ l = .int .i64 (bwd W h xs k j) ∧ Hid (arr.length = n) ∧ Hid (Up W h xs arr k j) ∧ Below w1.heap.size w1 wr ∧ Arr wr (w.heap.size + 1) 3 .i64 arr) (fun _ yy _ => (intOf yy + 1).toNat)
          case atStart => exact ⟨0, arr, by omega, by simp, rfl, HL, Up.zero HD'.out, hbr, har⟩
          case round =>
            clear hbr har HL HD' arr
            obtain ⟨j, arr, hj, rfl, rfl, HL, HD, hbr, har⟩ := hrel
            obtain ⟨p0, p1, p2⟩ := (hP1.below hbr).three
            by_cases hltj : (j : Int) < h
            · obtain ⟨y, hy⟩ : ∃ y : Nat, y = h - 1 - j := ⟨_, rfl⟩
              have ey : (h : Int) - 1 - j = (y : Int) := by omega
              obtain ⟨q0, q1, q2⟩ := ix_lt (y := y) hlt (show (y : Int) < h by omega)
              have hixn : ix W y k < n := by omega
              have c0 := hcell hbr _ hixn
              have c1 := har.cell (j := ix W y k) (by rw [HL.out]; exact hixn)
              have c2 := har.frozen (ix W y k)
              have Hat : Hid (gi arr (ix W y k) = fwd W xs k (y + 1)) := by
                have := Up.at_ HD.out (show j < h by omega)
                rw [← hy] at this; exact this
              have hcg := colg_at (W := W) (xs := xs) (x := k) (show j < h by omega)
              rw [← hy] at hcg
              have Hbs : Hid (bwd W h xs k (j + 1) = if gi xs (ix W y k) = 1 then bwd W h xs k j + 1 else 0) := by
                unfold Hid; rw [hy]; rfl
              have Hup := hid (Up.step HD.out hlt (show j < h by omega) (by rw [HL.out, ← hy]; exact hixn) (colg W h xs y k) (by rw [hy]))
              rw [← hy] at Hup
              have Harr := hid (har.set (ix W y k) (colg W h xs y k))
              have HL' : Hid ((arr.set (ix W y k) (colg W h xs y k)).length = n) := by unfold Hid; rw [List.length_set]; exact HL.out
              have hbs : Hid (Below w1.heap.size w1 (wr.setCell ⟨w.heap.size + 1, ix W y k, none⟩ (.int .i64 (colg W h xs y k)))) := hbr.setCell (by simp; omega) _
              obtain ⟨f0, f1⟩ := bwd_bd W h xs k j
              have Hcg := hid hcg
              have Hy := hid hy
              have hyh : (y : Int) < h := by omega
              clear hy hcg
              rw [Hat.out] at c1
              unfold ix at c0 c1 c2
              rw [ey]
              have Ey := hid ey
              clear ey hP1
              have key : ∀ q : Int, Hid (bwd W h xs k (j + 1) = q) → Hid (colg W h xs y k = if q < fwd W xs k (y + 1) then q else fwd W xs k (y + 1)) := by
                intro q hq
                unfold Hid
                rw [Hcg.out, hq.out]
                omega
              cases hq : (gi xs ((y : Int) * W + k).toNat != 1)
              · have hv : Hid (bwd W h xs k (j + 1) = bwd W h xs k j + 1) := by
                  unfold Hid; rw [Hbs.out]; unfold ix; rw [if_pos (by simpa using hq)]
                have Hk := key _ hv
                clear key
                rw [Hk.out] at Hup Harr HL' hbs
                unfold ix at Hup Harr HL' hbs
                go_wp2
                go_region
                go_wp2
                go_roundw
                case rel => exact ⟨j + 1, _, by omega, by rw [← Ey.out]; go_num, by rw [hv.out], HL', Hup, hbs.out.drew, Harr.out⟩
                case measure => simp [intOf]
              · have hv : Hid (bwd W h xs k (j + 1) = 0) := by
                  unfold Hid; rw [Hbs.out]; unfold ix; rw [if_neg (by simpa using hq)]
                have Hk := key _ hv
                clear key
                rw [Hk.out] at Hup Harr HL' hbs
                unfold ix at Hup Harr HL' hbs
                go_wp2
                go_region
                go_wp2
                go_roundw
                case rel => exact ⟨j + 1, _, by omega, by rw [← Ey.out]; go_num, by rw [hv.out], HL', Hup, hbs.out.drew, Harr.out⟩
                case measure => simp [intOf]
            · have hjh : j = h := by omega
              have HD' : Hid (Up W h xs arr k h) := by have := HD.out; rwa [hjh] at this
              clear HD hjh
              go_wp2
              go_roundw
              case rel => exact ⟨k + 1, arr, by omega, by go_num, HL, Up.done HD'.out, hbr, har⟩
              case measure => simp [intOf]; omega
    · have hkW : Hid (W.toNat = k) := by unfold Hid; omega
      go_wp2
      go_ret
      exact ⟨w.heap.size + 1, arr, by omega, rfl, HL.out, by rw [hkW.out]; exact HD.out, har, bstep hB1 hbr⟩
end Go.Proofs.Ytpanbblbcnmadaa
