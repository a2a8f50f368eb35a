/- Walks: clone of layer 35's law, wayfinderbase.Plans on equal plans. Conditions: as each theorem states. -/
import Derived.Test.YtpanbblbcnmadaaBase4
namespace Go.Proofs.Ytpanbblbcnmadaa
open Go.RowKit

theorem u8Info : (Try.prog.info? 5).map (fun i => (i.zero, i.size, i.bytes)) = some (some (.int .u8 0), 1, 1) := by kernel_rfl

/-- A plan of the same size, its cells in a row of the call's own. -/
def CloneOk (W H : Int) (xs : List Int) (w : World) (e : Ending) (w' : World) : Prop :=
  ∃ v, e = .returned (.agg #[.int .i64 W, .int .i64 H, v]) ∧ w'.ownsRow w.heap.size 5 1 v xs.length (xs.map (Value.int .u8)) ∧ Below w.heap.size w w'

set_option maxHeartbeats 1000000 in
theorem clone_any (W H : Int) (A : Option Addr) (n c : Nat) (xs : List Int) (w : World) (hn : n = xs.length) (hnil : A = none → n = 0) (hl : n ≤ 1073741824) (hr : Ints w .u8 A xs) :
    Calls Try.prog 14 #[.agg #[.int .i64 W, .int .i64 H, .slice A n c]] w (CloneOk W H xs w) := by
  obtain ⟨i0, hi, hz0, hz1, hz2⟩ := info_parts u8Info
  have Hn := hid hn
  have Hnil := hid hnil
  have Hi := hid hi
  have Hz0 := hid hz0
  have Hz1 := hid hz1
  have Hz2 := hid hz2
  clear hn hi hz0 hz1 hz2 hnil
  go_enter Try.func14, Try.ntmps14
  go_wp2
  have hown0 : (((w.alloc (.cells #[.int .i64 W, .int .i64 H, .slice A n c] 24)).alloc (.cells #[.int .i64 0, .int .i64 0, .slice none 0 0] 24)).alloc (.cells #[] 5)).ownsRow (w.heap.size + 1 + 1) 5 1 (.slice (some ⟨w.heap.size + 1 + 1, 0, none⟩) 0 0) 0 [] := by
    have h := World.ownsRow_made (base := w.heap.size + 1 + 1) (e := 5) (size := 1) ((w.alloc (.cells #[.int .i64 W, .int .i64 H, .slice A n c] 24)).alloc (.cells #[.int .i64 0, .int .i64 0, .slice none 0 0] 24)) #[] 0 (by simp) (by simp [maxLen]) rfl
    simpa using h
  have Hown := hid hown0
  have hr3 := (((hr.alloc (.cells #[.int .i64 W, .int .i64 H, .slice A n c] 24)).alloc (.cells #[.int .i64 0, .int .i64 0, .slice none 0 0] 24)).alloc (.cells #[] 5))
  clear hown0
  have hP3 : Cells (((w.alloc (.cells #[.int .i64 W, .int .i64 H, .slice A n c] 24)).alloc (.cells #[.int .i64 0, .int .i64 0, .slice none 0 0] 24)).alloc (.cells #[] 5)) w.heap.size [.int .i64 W, .int .i64 H, .slice A n c] :=
    ((Cells.new _ _ _).alloc _).alloc _
  have hR3 : Cells (((w.alloc (.cells #[.int .i64 W, .int .i64 H, .slice A n c] 24)).alloc (.cells #[.int .i64 0, .int .i64 0, .slice none 0 0] 24)).alloc (.cells #[] 5)) (w.heap.size + 1) [.int .i64 0, .int .i64 0, .slice none 0 0] :=
    (Cells.new' _ _ _ (by simp)).alloc _
  have hbel : ∀ w4, (((w.alloc (.cells #[.int .i64 W, .int .i64 H, .slice A n c] 24)).alloc (.cells #[.int .i64 0, .int .i64 0, .slice none 0 0] 24)).alloc (.cells #[] 5)).drew.grownBy w4 (some (w.heap.size + 1 + 1)) → Below (w.heap.size + 1 + 1) (((w.alloc (.cells #[.int .i64 W, .int .i64 H, .slice A n c] 24)).alloc (.cells #[.int .i64 0, .int .i64 0, .slice none 0 0] 24)).alloc (.cells #[] 5)) w4 := fun w4 hg => by
    have hb := (Below.refl (w.heap.size + 1 + 1) (((w.alloc (.cells #[.int .i64 W, .int .i64 H, .slice A n c] 24)).alloc (.cells #[.int .i64 0, .int .i64 0, .slice none 0 0] 24)).alloc (.cells #[] 5))).drew
    exact hb.grown hg (by simp) (fun k hk => by injection hk with hk; omega)
  go_region_law (refine step_app ?_ (.tmp 7) (.tmp 9) 22 ?_ (w.heap.size + 1 + 1) 5 i0 (.int .u8 0) 1 ?_ ?_ ?_ ?_ ?_ ?_ (.slice (some ⟨w.heap.size + 1 + 1, 0, none⟩) 0 0) 0 [] ?_ ?_ .u8 A n c xs ?_ ?_ ?_ ?_ ?_ ?_ ?_ ?_; rfl; rfl; exact Try.underlying22; exact Hi.out; exact Hz0.out; exact Hz1.out; exact Hz2.out; rfl; rfl; exact Hown.out.drew; rfl; exact Hn.out; exact Hnil.out; exact hr3.drew; (simp only [maxLen]; omega); omega; simp; intro v4 w4 hown4 hg4; obtain ⟨A4, c4, rfl⟩ := own_slice hown4; have hb4 := hbel _ hg4; obtain ⟨⟨c0, c1, c2⟩, ⟨f0, f1, f2⟩⟩ := (hR3.belowB hb4 (by omega)).three'; obtain ⟨p0, p1, p2⟩ := (hP3.belowB hb4 (by omega)).three)
  all_goals
    go_wp2
    refine bodyPost_ret (v := .agg #[.int .i64 W, .int .i64 H, .slice A4 n c4]) (by simp [results, Try.results14, go_sem, c0, c1, c2]) rfl ⟨_, rfl, ?_, ?_⟩
    · have h4 := hown4
      rw [Nat.zero_add, List.nil_append, Hn.out] at h4
      rw [Hn.out]
      exact own_base (ownsRow_setCell_below (ownsRow_setCell_below (ownsRow_setCell_below h4 (by simp) _) (by simp) _) (by simp) _) (by omega)
    · exact ((((ba3 w _ _ _).trans (hb4.mono (by omega))).setCell (by simp) _).setCell (by simp) _).setCell (by simp) _
end Go.Proofs.Ytpanbblbcnmadaa
