/- Law and walk: string(b) of a []byte that reads as numbers; wayfinderbase.Plans on equal plans. Conditions: as each theorem states. -/
import Derived.Test.YtpanbblbcnmadaaBase4
import Derived.Laws.BytesArg
namespace Go.Proofs.Ytpanbblbcnmadaa
open Go.RowKit

theorem conv_ints {P : Program} {w : World} (src e dst : TypeId) (hs : P.underlying src = some (.slice e)) (he : P.underlying e = some (.int .u8)) (hd : P.underlying dst = some .string)
    (A : Option Addr) (n c : Nat) (xs : List Int) (hn : n = xs.length) (hr : Ints w .u8 A xs) : (convert src dst (.slice A n c)).run P w = .ok (.string (strOfNums xs)) w := by
  rcases hr with rfl | ⟨b, off, rfl, hc⟩
  · subst hn
    rw [run_convert_bytes_string w src dst e _ _ c hs he hd]
    cases A <;> simp [Conv.bytesToString, loadCells]
    all_goals rfl
  · exact run_convert_bytes_arg (P := P) w src e hs he b off n c xs hn.symm (fun i hi => hc i (by omega)) dst hd

theorem plans_t (W H : Int) (A1 A2 : Option Addr) (n c1 c2 : Nat) (xs : List Int) (w : World) (hn : n = xs.length) (h1 : Ints w .u8 A1 xs) (h2 : Ints w .u8 A2 xs) :
    Calls Try.prog 18 #[.agg #[.int .i64 W, .int .i64 H, .slice A1 n c1], .agg #[.int .i64 W, .int .i64 H, .slice A2 n c2]] w fun e w' => e = .returned (.bool true) ∧ Below w.heap.size w w' := by
  have k1 := conv_ints 22 5 9 Try.underlying22 Try.underlying5 Try.underlying9 A1 n c1 xs hn ((h1.alloc (.cells #[.int .i64 W, .int .i64 H, .slice A1 n c1] 24)).alloc (.cells #[.int .i64 W, .int .i64 H, .slice A2 n c2] 24))
  have k2 := conv_ints 22 5 9 Try.underlying22 Try.underlying5 Try.underlying9 A2 n c2 xs hn ((h2.alloc (.cells #[.int .i64 W, .int .i64 H, .slice A1 n c1] 24)).alloc (.cells #[.int .i64 W, .int .i64 H, .slice A2 n c2] 24))
  clear hn
  go_enter Try.func18, Try.ntmps18
  go_wp2
  go_ret
  exact ⟨rfl, ba2 _ _ _⟩
end Go.Proofs.Ytpanbblbcnmadaa
