/- The contracts of package distance that were walked by hand, for the abstract machine. Conditions: as each theorem states. -/
import Derived.Test.YtpanbblbcnmadaaAmP
import Derived.Test.YtpanbblbcnmadaaAwake35
import Derived.Test.YtpanbblbcnmadaaRSqs
import Derived.Test.YtpanbblbcnmadaaNearBad
namespace Go.Proofs.Ytpanbblbcnmadaa
open Go.RowKit
section
variable {H : AHeap} {W Hh : Int} {b n : Nat} {own : Bool} {cap : Option Nat} {xs : List Int}
theorem valid_a (hg : H[b]? = some (.cells own 1 (ints .u8 xs))) (hn : n = xs.length) : ACalls Try.prog 33 [.agg [.int .i64 W, .int .i64 Hh, .sl (some (b, 0)) n cap]] H (fun v H' => v = .bool (vldB W Hh xs) ∧ H' = H) := fun E w vs hE hv => by
  obtain ⟨v1, l1, rfl, k1, h1⟩ := rels_cons hv
  obtain rfl := rels_nil h1
  obtain ⟨A, c, rfl, hr⟩ := rel_plan hE hg k1 hn
  cases h : vldB W Hh xs
  · exact (valid_f W Hh A n c xs w hn h hr).mono fun e w' ⟨he, hb⟩ => plain_out hE (.bool false) he (.bool _) hb ⟨rfl, rfl⟩
  · exact (valid_t W Hh A n c xs w hn h hr).mono fun e w' ⟨he, hb⟩ => plain_out hE (.bool true) he (.bool _) hb ⟨rfl, rfl⟩
theorem rplan_a (hg : H[b]? = some (.cells own 1 (ints .u8 xs))) (hn : n = xs.length) : ACalls Try.prog 29 [.agg [.int .i64 W, .int .i64 Hh, .sl (some (b, 0)) n cap]] H (fun v H' => v = .bool (vldB W Hh xs) ∧ H' = H) := fun E w vs hE hv => by
  obtain ⟨v1, l1, rfl, k1, h1⟩ := rels_cons hv
  obtain rfl := rels_nil h1
  obtain ⟨A, c, rfl, hr⟩ := rel_plan hE hg k1 hn
  cases h : vldB W Hh xs
  · exact (rplan_f W Hh A n c xs w hn h hr).mono fun e w' ⟨he, hb⟩ => plain_out hE (.bool false) he (.bool _) hb ⟨rfl, rfl⟩
  · exact (rplan_t W Hh A n c xs w hn h hr).mono fun e w' ⟨he, hb⟩ => plain_out hE (.bool true) he (.bool _) hb ⟨rfl, rfl⟩
theorem rfree_a {x y : Int} (hV : Vld W Hh xs) (hg : H[b]? = some (.cells own 1 (ints .u8 xs))) (hn : n = xs.length) : ACalls Try.prog 38 [.agg [.int .i64 W, .int .i64 Hh, .sl (some (b, 0)) n cap], .agg [.int .i64 x, .int .i64 y]] H (fun v H' => v = .bool (freeB W Hh xs x y) ∧ H' = H) := fun E w vs hE hv => by
  obtain ⟨v1, l1, rfl, k1, h1⟩ := rels_cons hv
  obtain ⟨v2, l2, rfl, k2, h2⟩ := rels_cons h1
  obtain rfl := rels_nil h2
  obtain rfl := rel_cell k2
  obtain ⟨A, c, rfl, hr⟩ := rel_plan hE hg k1 hn
  exact (rfree_any W Hh x y A n c xs w hn hV hr).mono fun e w' ⟨he, hb⟩ => plain_out hE (.bool _) he (.bool _) hb ⟨rfl, rfl⟩
theorem dfree_a {x y : Int} (hV : Vld W Hh xs) (hg : H[b]? = some (.cells own 1 (ints .u8 xs))) (hn : n = xs.length) : ACalls Try.prog 36 [.agg [.int .i64 W, .int .i64 Hh, .sl (some (b, 0)) n cap], .agg [.int .i64 x, .int .i64 y]] H (fun v H' => v = .bool (freeB W Hh xs x y) ∧ H' = H) := fun E w vs hE hv => by
  obtain ⟨v1, l1, rfl, k1, h1⟩ := rels_cons hv
  obtain ⟨v2, l2, rfl, k2, h2⟩ := rels_cons h1
  obtain rfl := rels_nil h2
  obtain rfl := rel_cell k2
  obtain ⟨A, c, rfl, hr⟩ := rel_plan hE hg k1 hn
  exact (dfree_any W Hh x y A n c xs w hn hV hr).mono fun e w' ⟨he, hb⟩ => plain_out hE (.bool _) he (.bool _) hb ⟨rfl, rfl⟩
theorem rnear_a {x y : Int} (hV : Vld W Hh xs) (hi : inB W Hh x y = true) (hg : H[b]? = some (.cells own 1 (ints .u8 xs))) (hn : n = xs.length) : ACalls Try.prog 20 [.agg [.int .i64 W, .int .i64 Hh, .sl (some (b, 0)) n cap], .agg [.int .i64 x, .int .i64 y]] H
    (fun v H' => ∃ p q l, nearI W Hh xs x y = (p, q, l) ∧ v = .tup [.agg [.int .i64 p, .int .i64 q], .int .i64 l, .int .i64 0] ∧ H' = H) := fun E w vs hE hv => by
  obtain ⟨v1, l1, rfl, k1, h1⟩ := rels_cons hv
  obtain ⟨v2, l2, rfl, k2, h2⟩ := rels_cons h1
  obtain rfl := rels_nil h2
  obtain rfl := rel_cell k2
  obtain ⟨A, c, rfl, hr⟩ := rel_plan hE hg k1 hn
  refine (rnear_any W Hh x y A n c xs w hn hV hi hr).mono fun e w' ⟨p, q, l, h1, he, hb⟩ => plain_out hE (.tup [.agg [.int .i64 p, .int .i64 q], .int .i64 l, .int .i64 0]) he ?_ hb ⟨p, q, l, h1, rfl, rfl⟩
  exact RelL.tup (vs := [_, _, _]) (.cons (RelL.agg (vs := [_, _]) (.cons (.int _ _) (.cons (.int _ _) (.nil E)))) (.cons (.int _ _) (.cons (.int _ _) (.nil E))))
theorem squares_a (hV : Vld W Hh xs) (hg : H[b]? = some (.cells own 1 (ints .u8 xs))) (hn : n = xs.length) : ACalls Try.prog 34 [.agg [.int .i64 W, .int .i64 Hh, .sl (some (b, 0)) n cap]] H
    (fun v H' => v = .sl (some (H.length, 0)) n none ∧ H' = H ++ [.cells true 1 (ints .i64 (sqs W Hh xs))]) := fun E w vs hE hv => by
  obtain ⟨v1, l1, rfl, k1, h1⟩ := rels_cons hv
  obtain rfl := rels_nil h1
  obtain ⟨A, c, rfl, hr⟩ := rel_plan hE hg k1 hn
  obtain ⟨p1, p2, p3, p4⟩ := hV.pos
  refine (squares_any W Hh A n c xs w hn hV hr).mono fun e w' ⟨g, arr, hgB, he, hl, hR, ha, hb⟩ => ?_
  subst hR
  have hown : w'.ownsRow w.heap.size 3 1 (.slice (some ⟨g, 0, none⟩) n n) n ((sqs W Hh xs).map (Value.int .i64)) :=
    ⟨by simp [hl], .inr ⟨g, n, _, rfl, hgB, ha, Nat.le_refl _, by unfold maxLen; omega, by simp [hl], by simp only [Nat.mul_one]; exact List.take_of_length_le (by simp [hl])⟩⟩
  obtain ⟨E', hle, hrel, hemb⟩ := hE.row hb hown (Nat.le_refl _) (by omega) (rels_ints _) (ints_one _)
  exact ⟨E', _, _, _, he, ⟨rfl, rfl⟩, hle, hrel, hemb⟩
theorem rsquares_a (hV : Vld W Hh xs) (hg : H[b]? = some (.cells own 1 (ints .u8 xs))) (hn : n = xs.length) : ACalls Try.prog 16 [.agg [.int .i64 W, .int .i64 Hh, .sl (some (b, 0)) n cap]] H
    (fun v H' => v = .tup [.sl (some (H.length, 0)) n none, .int .i64 0] ∧ H' = H ++ [.cells true 1 (ints .i64 (sqs W Hh xs))]) := fun E w vs hE hv => by
  obtain ⟨v1, l1, rfl, k1, h1⟩ := rels_cons hv
  obtain rfl := rels_nil h1
  obtain ⟨A, c, rfl, hr⟩ := rel_plan hE hg k1 hn
  obtain ⟨p1, p2, p3, p4⟩ := hV.pos
  have hlen := hV.len
  refine (rsquares_t W Hh A n c xs w hn hV hr).mono fun e w' ⟨v, he, hown, hb⟩ => ?_
  have hl : (sqs W Hh xs).length = n := by rw [sqs_len]; omega
  rw [hl] at hown
  obtain ⟨E', hle, hrel, hemb⟩ := hE.row hb hown (Nat.le_refl _) (by omega) (rels_ints _) (ints_one _)
  exact ⟨E', _, _, _, he, ⟨rfl, rfl⟩, hle, RelL.tup (vs := [_, _]) (.cons hrel (.cons (.int _ _) (.nil _))), hemb⟩
theorem awake_a : ACalls Try.prog 12 [] H (fun v H' => v = .bool true ∧ H' = H) := fun E w vs hE hv => by
  obtain rfl := rels_nil hv
  exact (awake_any w).mono fun e w' ⟨he, hb⟩ => plain_out hE (.bool true) he (.bool _) hb ⟨rfl, rfl⟩
end
end Go.Proofs.Ytpanbblbcnmadaa
