/- Walks: wayfinderbase.Plan on valid and on other plans. Conditions: as each theorem states. -/
import Derived.Test.YtpanbblbcnmadaaMplan
namespace Go.Proofs.Ytpanbblbcnmadaa
open Go.RowKit

/-- wayfinderbase.Plan -/
theorem rplan_t (W H : Int) (A : Option Addr) (n c : Nat) (xs : List Int) (w : World) (hn : n = xs.length) (hv : vldB W H xs = true) (hr : Ints w .u8 A xs) :
    Calls Try.prog 29 #[.agg #[.int .i64 W, .int .i64 H, .slice A n c]] w fun e w' => e = .returned (.bool true) ∧ Below w.heap.size w w' := by
  have hV := vld_iff.1 hv
  obtain ⟨hp, hp2, hp3, hp4⟩ := hV.pos
  obtain ⟨h1, h2, h3, h4, h5, h6⟩ := hV
  obtain ⟨b, off, rfl, hc⟩ := hr.open hp3
  have hle : ∀ j, j < n → gi xs j ≤ 2 := fun j hj => h6 _ (gi_mem (by omega))
  rw [← hn] at h5 hp3 hp4 hc
  clear hn h6 hv hr
  have H5 : ((n : Int) != W * H) = false := by simp [h5]
  clear h5
  go_enter Try.func29, Try.ntmps29
  go_wp2
  go_loop [3] (fun i => ∃ k : Nat, k ≤ n ∧ i = .int .i64 k) (fun i => n - (intOf i).toNat)
  case atStart => exact ⟨0, by omega, rfl⟩
  case round =>
    obtain ⟨k, hk2, rfl⟩ := hrel
    by_cases hlt : k < n
    · have hcell := cell_alloc (hc k hlt) (Obj.cells #[.int .i64 W, .int .i64 H, .slice (some ⟨b, off, none⟩) n c] 24)
      have hlk := hle k hlt
      go_wp2
      go_round
      case rel => exact ⟨k + 1, by omega, by go_num⟩
      case measure => simp [intOf]; omega
    · go_wp2
      go_ret
      exact ⟨rfl, (Below.refl _ _).alloc (Nat.le_refl _) _⟩

theorem rplan_f (W H : Int) (A : Option Addr) (n c : Nat) (xs : List Int) (w : World) (hn : n = xs.length) (hv : vldB W H xs = false) (hr : Ints w .u8 A xs) :
    Calls Try.prog 29 #[.agg #[.int .i64 W, .int .i64 H, .slice A n c]] w fun e w' => e = .returned (.bool false) ∧ Below w.heap.size w w' := by
  have hV := vld_false.1 hv
  clear hv
  by_cases h1 : 1 ≤ W
  · by_cases h2 : W ≤ 64
    · by_cases h3 : 1 ≤ H
      · by_cases h4 : H ≤ 64
        · have hp2 := mul_le_64 (a := W) (b := H) (by omega) h2 (by omega) h4
          have hp : 1 * 1 ≤ W * H := Int.mul_le_mul h1 h3 (by omega) (by omega)
          obtain ⟨hp3, hp4⟩ := hp2
          by_cases h5 : (n : Int) = W * H
          · have hp5 : 0 < n := by omega
            have hx : ∃ v ∈ xs, ¬ v ≤ 2 := by
              apply Classical.byContradiction
              intro hno
              exact hV ⟨h1, h2, h3, h4, by omega, fun v hv => Classical.byContradiction fun hh => hno ⟨v, hv, hh⟩⟩
            obtain ⟨j, hj, hgj⟩ : ∃ j, j < n ∧ ¬ gi xs j ≤ 2 := by
              obtain ⟨v, hv, hv2⟩ := hx
              obtain ⟨j, hj, rfl⟩ := List.getElem_of_mem hv
              exact ⟨j, by omega, by rw [gi_lt hj]; exact hv2⟩
            obtain ⟨b, off, rfl, hc⟩ := hr.open (by omega)
            clear hV hx hr
            have H5 : ((n : Int) != W * H) = false := by simp [h5]
            have hn2 : n ≤ 65536 := by omega
            rw [← hn] at hc
            clear h5 hn
            go_enter Try.func29, Try.ntmps29
            go_wp2
            go_loop [3] (fun i => ∃ k : Nat, k ≤ j ∧ i = .int .i64 k) (fun i => n - (intOf i).toNat)
            case atStart => exact ⟨0, by omega, rfl⟩
            case round =>
              obtain ⟨k, hk2, rfl⟩ := hrel
              have hlt : k < n := by omega
              have hcell := cell_alloc (hc k hlt) (Obj.cells #[.int .i64 W, .int .i64 H, .slice (some ⟨b, off, none⟩) n c] 24)
              by_cases hkj : gi xs k ≤ 2
              · have hne : k ≠ j := by rintro rfl; omega
                go_wp2
                go_round
                case rel => exact ⟨k + 1, by omega, by go_num⟩
                case measure => simp [intOf]; omega
              · go_wp2
                go_ret
                exact ⟨rfl, (Below.refl _ _).alloc (Nat.le_refl _) _⟩
          · have H5 : ((n : Int) != W * H) = true := by simp [h5]
            clear h5 hn hV
            go_enter Try.func29, Try.ntmps29
            go_wp2
            go_ret
            exact ⟨rfl, (Below.refl _ _).alloc (Nat.le_refl _) _⟩
        · clear hV hn
          go_enter Try.func29, Try.ntmps29
          go_wp2
          go_ret
          exact ⟨rfl, (Below.refl _ _).alloc (Nat.le_refl _) _⟩
      · clear hV hn
        go_enter Try.func29, Try.ntmps29
        go_wp2
        go_ret
        exact ⟨rfl, (Below.refl _ _).alloc (Nat.le_refl _) _⟩
    · clear hV hn
      go_enter Try.func29, Try.ntmps29
      go_wp2
      go_ret
      exact ⟨rfl, (Below.refl _ _).alloc (Nat.le_refl _) _⟩
  · clear hV hn
    go_enter Try.func29, Try.ntmps29
    go_wp2
    go_ret
    exact ⟨rfl, (Below.refl _ _).alloc (Nat.le_refl _) _⟩
end Go.Proofs.Ytpanbblbcnmadaa
