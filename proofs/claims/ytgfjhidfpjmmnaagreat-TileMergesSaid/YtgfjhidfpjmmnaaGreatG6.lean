/- Proved: the law TileMerges returns true on every input, and its arguments read afterwards as before. Conditions: none beyond the given row's. -/
import Derived.Test.YtgfjhidfpjmmnaaGreatG5
import Derived.Test.YtgfjhidfpjmmnaaGreatG4
import Derived.Test.YtgfjhidfpjmmnaaGreatG3
import Derived.Test.YtgfjhidfpjmmnaaGreatG2
namespace Go.Proofs.YtgfjhidfpjmmnaaGreat
set_option linter.unusedSimpArgs false
set_option linter.unusedVariables false
open Go.RowKit
set_option maxHeartbeats 4000000
set_option maxRecDepth 100000
theorem same_t (H : AHeap) (s : AV) (l : List Tl) (r : AV) (m : List Tl) (hs : Sl H 3 s l.length (tlR l)) (hr : Sl H 3 r m.length (tlR m)) (hl : l.length ≤ 1000) (hm : m.length ≤ 1000) (hok : tlOk H l) (hok2 : tlOk H m) (h : l.map tl3 = m.map tl3) : ACalls Tryz.prog 8 [s, r] H (fun v H' => v = .bool true ∧ H' = H) := by
  have := same_c H s l r m hs hr (by omega) (by omega) hok hok2
  rwa [decide_eq_true h] at this
theorem tlOk_one {H : AHeap} {e : Tl} (h : Sl H 1 e.s e.d.length (ints .u8 e.d)) (h2 : e.d.length ≤ 1000000000) (h3 : ∀ c ∈ e.d, 0 ≤ c ∧ c ≤ 255) : tlOk H [e] := fun x hx => by
  rw [List.mem_singleton.1 hx]; exact ⟨h, h2, h3⟩
theorem ent_t (H : AHeap) (s : AV) (l : List T4) (r : AV) (hs : Sl H 4 s l.length (r4 l)) (hr : Sl H 4 r l.length (r4 l)) (hl : l.length ≤ 1000000000) : ACalls Tryz.prog 13 [s, r] H (fun v H' => v = .bool true ∧ H' = H) := by
  have := entries_c H s l r l hs hr hl hl
  rwa [decide_eq_true rfl] at this
theorem tsz_t (H : AHeap) (s : AV) (l : List Tl) (n : Nat) (hs : Sl H 3 s l.length (tlR l)) (hl : l.length ≤ 1000) (hok : tlOk H l) (h : sizL l = n) : ACalls Tryz.prog 14 [s] H (fun v H' => v = .int .i64 (n : Int) ∧ H' = H) := by
  have := tsz_c H s l hs hl hok
  rwa [h] at this
theorem awk_c (H : AHeap) : ACalls Tryz.prog 4 [] H (fun v H' => v = .bool true ∧ H' = H) := by
  refine AcT true Tryz.func4 ?_; intro hbel Q hQ
  refine runT ?_
  refine call_of (by kernel_rfl) (tpack_c _ _ [(17, -1, 3, 0)] (slA) (by decide)) ?_
  rintro _ M1 ⟨w1, rfl, hT1⟩
  rw [show packX [(17, -1, 3, 0)] = ([(1, -1, [241, 1, 6, 0])], 0) by decide +kernel] at *
  obtain ⟨X1, hX1⟩ := hT1.ex
  obtain ⟨ts, hts, hsl, hok⟩ := hT1.ts
  have hlen : ts.length = 1 := by have := congrArg List.length hts; simpa using this
  have hunp : unpR ts = ([(17, -1, 3, 0)], 0) := unp_pack (l := [(17, -1, 3, 0)]) (vldE_iff.1 (by decide +kernel)) (by rw [hts]; decide +kernel)
  have hmer : merX unpR comR ts ts = ([(1, -1, [241, 1, 12, 0])], 0) := by unfold merX; rw [hunp]; decide +kernel
  have hget : getR (unpR ts) 17 (-1) = ((17, -1, 3, 0), 0) := by rw [hunp]; decide +kernel
  have hlx1 : M1[H.length]? = some (.cells true 0 [.int .i64 17, .int .i64 (-1)]) := by rw [hX1]; exact get_old get_new0 _
  have hlr1 : M1[H.length + 1]? = some (.cells true 4 (r4 [(17, -1, 3, 0)])) := by rw [hX1]; exact get_old get_newk _
  refine runT ?_
  refine call_of (by kernel_rfl) (tmrg_c _ _ ts _ ts hsl hsl (by omega) (by omega) hok hok (by rw [hunp]; decide) (by rw [hunp]; decide)) ?_
  rintro _ M2 ⟨w2, rfl, hT2⟩
  rw [hmer] at hT2 ⊢
  obtain ⟨X2, hX2⟩ := hT2.ex
  have hsl2 : Sl M2 3 w1 ts.length (tlR ts) := by rw [hX2]; exact hsl.app _
  have hok2 : tlOk M2 ts := by rw [hX2]; exact hok.app _
  have hlx2 : M2[H.length]? = some (.cells true 0 [.int .i64 17, .int .i64 (-1)]) := by rw [hX2]; exact get_old hlx1 _
  have hlr2 : M2[H.length + 1]? = some (.cells true 4 (r4 [(17, -1, 3, 0)])) := by rw [hX2]; exact get_old hlr1 _
  refine runT ?_
  have hu := unpack_c M2 _ ts hsl2 (by omega) hok2
  rw [hunp] at hu
  refine call_v (by kernel_rfl) hu ?_
  have hlx3 := fun l => get_old hlx2 l
  have hlr3 := fun l => get_old hlr2 l
  have hlr4 : ∀ l, (M2 ++ l)[H.length + 1]? = some (.cells true 4 [.int .i64 17, .int .i64 (-1), .int .i64 3, .int .i64 0]) := fun l => hlr3 l
  have g'1 := (jn @hlx3 @hlr3)
  refine runTf g'1 ?_
  have hg := tget_c (M2 ++ [.cells (ownG 1) 4 (r4 [(17, -1, 3, 0)])]) _ ts 17 (-1) (hsl2.app _) (by omega) (hok2.app _)
  rw [hget] at hg
  refine call_v (by kernel_rfl) hg ?_
  refine runTf g'1 ?_
  refine cv (x := .tup [_, .int .i64 0]) (by
    have hr := red_c (M2 ++ [.cells (ownG 1) 4 (r4 [(17, -1, 3, 0)]), .cells true 0 [.int .i64 17, .int .i64 (-1), .int .i64 3, .int .i64 0]]) (.sl (some (H.length + 1, 0)) 1 (some 1)) [(17, -1, 3, 0)] 4 ⟨_, _, _, rfl, hlr3 _⟩ (by decide)
    rw [show redR [(17, -1, 3, 0)] 4 = ([(1, -1, 3, 0)], 0) by decide +kernel] at hr
    exact hr) ?_
  refine runTf g'1 ?_
  have hts2 : ts.map tl3 = [(1, -1, [241, 1, 6, 0])] := hts
  have hsiz : sizL ts = 4 := by
    match ts, hlen, hts2 with
    | [t], _, h =>
      have q : t.d = [241, 1, 6, 0] := congrArg (fun l : List (Int × Int × List Int) => (l.getD 0 (0, 0, [])).2.2) h
      simp [sizL, q]
  obtain ⟨tm, htm, hsm, hom⟩ := hT2.ts
  have hlm : tm.length = 1 := by have := congrArg List.length htm; simpa using this
  refine cdr g'1 (same_t _ _ ts _ [⟨1, -1, .sl (some (M2.length + 3, 0)) 4 (some 4), [241, 1, 6, 0]⟩] (by exact hsl2.app _) (by exact slA) (by omega) (by simp) (by exact hok2.app _) (by exact tlOk_one slA (by simp) (by simp)) hts2) ?_
  refine cdr g'1 (same_t _ _ tm _ [⟨1, -1, .sl (some (M2.length + 5, 0)) 4 (some 4), [241, 1, 12, 0]⟩] (by exact hsm.app _) (by exact slA) (by omega) (by simp) (by exact hom.app _) (by exact tlOk_one slA (by simp) (by simp)) htm) ?_
  refine cd (ent_t _ _ [(17, -1, 3, 0)] _ (by exact slA) (by exact ⟨_, _, _, rfl, hlr3 _⟩) (by simp)) ?_
  have g'2 := (jn @hlx3 @hlr4)
  refine runTf g'2 ?_
  have hm2 := getElem?_lt hlr2
  refine ⟨by omega, ?_⟩
  refine cdr g'1 (ent_t _ _ [(1, -1, 3, 0)] _ (by exact slA) (by exact slA) (by simp)) ?_
  refine cdr g'1 (tsz_t _ _ ts 4 (by exact hsl2.app _) (by omega) (by exact hok2.app _) hsiz) ?_
  have hend : ∀ L, M2 ++ L = H ++ ([.cells true 0 [.int .i64 17, .int .i64 (-1)], .cells true 4 [.int .i64 17, .int .i64 (-1), .int .i64 3, .int .i64 0]] ++ X1 ++ X2 ++ L) := fun L => by rw [hX2, hX1]; simp only [List.append_assoc]
  refine hQ _ _ ?_
  rw [hend]
  exact end_plain (.inl rfl) hbel (x := .bool true) (resT Tryz.results4) rfl ⟨rfl, rfl⟩
theorem tlOk0.app {H : AHeap} {l : List Tl} (h : tlOk0 H l) (L : AHeap) : tlOk0 (H ++ L) l := fun e he => ⟨(h e he).1.app L, (h e he).2⟩
theorem rows_tl {P : Program} {H : AHeap} {n : Nat} {ti ts te : TypeId} (hi : P.underlying ti = some (.int .i64)) (hs : P.underlying ts = some (.slice te)) (hu : P.underlying te = some (.int .u8)) (hl : leafs P (n + 1) te = some [te]) : ∀ rows : List (List AV), (∀ r : List AV, r ∈ rows → RTy P H (n + 2) [ti, ti, ts] r) → ∃ l : List Tl, l.length = rows.length ∧ rows.flatten = tlR l ∧ tlOk0 H l
  | [], _ => ⟨[], rfl, rfl, fun e h => by cases h⟩
  | r :: rows, h => by
    obtain ⟨l, q1, q2, q3⟩ := rows_tl hi hs hu hl rows fun r' hr => h r' (by simp [hr])
    have hr := h r (by simp)
    obtain ⟨y1, r', rfl, hy1, hr⟩ := hr.cons
    obtain ⟨y2, r', rfl, hy2, hr⟩ := hr.cons
    obtain ⟨y3, r', rfl, hy3, hr⟩ := hr.cons
    obtain rfl := hr.nil
    obtain ⟨z1, rfl, -⟩ := hy1.int hi
    obtain ⟨z2, rfl, -⟩ := hy2.int hi
    obtain ⟨d, k1, k2, k3⟩ := hy3.intsU hs hu hl
    refine ⟨⟨z1, z2, y3, d⟩ :: l, by simp [q1], by rw [tlR_cons, List.flatten_cons, q2]; rfl, fun e he => ?_⟩
    rcases List.mem_cons.1 he with rfl | he
    · exact ⟨k1, k2, fun c hc => wf_u8 (k3 c hc)⟩
    exact q3 e he
theorem LTy.tls {P : Program} {H : AHeap} {n : Nat} {t e ti ts te : TypeId} {x : AV} (ht : P.underlying t = some (.slice e)) (hle : leafs P (n + 2) e = some [ti, ti, ts]) (hi : P.underlying ti = some (.int .i64)) (hs : P.underlying ts = some (.slice te)) (hu : P.underlying te = some (.int .u8)) (hl : leafs P (n + 1) te = some [te]) (h : LTy P H (n + 3) t x) :
    ∃ l : List Tl, Sl H 3 x l.length (tlR l) ∧ l.length ≤ maxLen ∧ tlOk0 H l := by
  obtain ⟨b, rows, rfl, k1, k2, k3⟩ := h.slice ht hle
  obtain ⟨l, q1, q2, q3⟩ := rows_tl hi hs hu hl rows k3
  exact ⟨l, ⟨b, false, none, by rw [q1], by rw [← q2]; exact k2⟩, by omega, q3⟩
/-- What a tile's data say. -/
structure TOk (tx ty : Int) (nx : Nat) (q : List Int) (E : List T4) : Prop where
  inn : ∀ e ∈ E, e.1 / 16 = tx ∧ e.2.1 / 16 = ty
  ord : E.Pairwise befE
  num : numOk tx ty nx E
  dat : datF tx ty nx E = q
theorem packL_len (l : List T4) : (packL l).length ≤ l.length := by
  show ((homs l).map _).length ≤ _
  rw [List.length_map]; exact homs_len
theorem packX_t {l : List T4} (h : vldE l = true) : packX l = (packL l, 0) := by rw [packX, if_pos h]
theorem rpackT_e (H : AHeap) (s : AV) (l : List T4) (p : List (Int × Int × List Int)) (e : Int) (h : packX l = (p, e)) (hs : Sl H 4 s l.length (r4 l)) (hl : l.length ≤ 100000) (hbel : HBel H.length H) : ACalls Tryz.prog 19 [s] H (fun v H' => ∃ w, v = .tup [w, .int .i64 e] ∧ TAt H p w H') := by
  have := rpackT_c H s l hs hl hbel
  rwa [h] at this
theorem rupk_e (H : AHeap) (s : AV) (l : List Tl) (u : List T4) (e : Int) (h : unpR l = (u, e)) (hs : Sl H 3 s l.length (tlR l)) (hl : l.length ≤ 1000) (hok : tlOk H l) : ACalls Tryz.prog 17 [s] H (fun v H' => v = .tup [.sl (some (H.length, 0)) u.length none, .int .i64 e] ∧ H' = H ++ [.cells (ownG u.length) 4 (r4 u)]) := by
  have := rupk_c H s l hs hl hok
  rw [run_unp] at this
  rwa [h] at this
theorem radd_c (H : AHeap) (s : AV) (l : List T4) (r : AV) (m : List T4) (hs : Sl H 4 s l.length (r4 l)) (hr : Sl H 4 r m.length (r4 m)) (hl : l.length ≤ 100000) (hm : m.length ≤ 100000) : ACalls Tryz.prog 18 [s, r] H (fun v H' => v = .tup [.sl (some (H.length, 0)) (((radR l m).1).length) none, iV ((radR l m).2)] ∧ H' = H ++ [.cells (ownG ((radR l m).1).length) 4 (r4 ((radR l m).1))]) := by
  obtain ⟨bs, os, cs, rfl, hbs⟩ := hs
  have hbls := getElem?_lt hbs
  have hb0s := fun l => get_app (l := l) hbs
  obtain ⟨br, or, cr, rfl, hbr⟩ := hr
  have hblr := getElem?_lt hbr
  have hb0r := fun l => get_app (l := l) hbr
  refine AcT true Tryz.func18 ?_; intro hbel Q hQ
  have g'1 := (jn @hbs (jn @hb0s (jn @hbr @hb0r)))
  refine runTf g'1 ?_
  refine cvr g'1 (rsum_c _ _ l _ m (⟨_, _, _, rfl, by first | exact hb0s _ | exact hbs⟩) (⟨_, _, _, rfl, by first | exact hb0r _ | exact hbr⟩) (by omega) (by omega)) ?_
  refine hQ _ _ (end_byG (.inl rfl) hbel (x1 := .tup [.sl (some (H.length, 0)) (((radR l m).1).length) none, iV ((radR l m).2)]) (l2 := [.cells (ownG ((radR l m).1).length) 4 (r4 ((radR l m).1))]) (.tup [.sl (some (H.length, 0)) (((radR l m).1).length) none, iV ((radR l m).2)]) (resT Tryz.results18) [] rfl [0] (by decide) ⟨rfl, rfl⟩ ?_)
  exact absWf @mvs_r4
theorem rupk_u (H : AHeap) (s : AV) (l : List Tl) (hs : Sl H 3 s l.length (tlR l)) (hl : l.length ≤ 1000) (hok : tlOk H l) : ACalls Tryz.prog 17 [s] H (fun v H' => v = .tup [.sl (some (H.length, 0)) (unpR l).1.length none, .int .i64 (unpR l).2] ∧ H' = H ++ [.cells (ownG (unpR l).1.length) 4 (r4 (unpR l).1)]) := rupk_e H s l _ _ rfl hs hl hok
theorem radd_u (H : AHeap) (s : AV) (l : List T4) (r : AV) (m : List T4) (hs : Sl H 4 s l.length (r4 l)) (hr : Sl H 4 r m.length (r4 m)) (hl : l.length ≤ 100000) (hm : m.length ≤ 100000) : ACalls Tryz.prog 18 [s, r] H (fun v H' => v = .tup [.sl (some (H.length, 0)) (comR l m).1.length none, .int .i64 (comR l m).2] ∧ H' = H ++ [.cells (ownG (comR l m).1.length) 4 (r4 (comR l m).1)]) := by
  have := radd_c H s l r m hs hr hl hm
  rwa [← com_rad] at this
theorem mer_comm {a b : List Tl} (h : (merX unpR comR a b).2 = 0) : merX unpR comR b a = merX unpR comR a b := by
  by_cases h1 : (unpR a).2 = 0
  · by_cases h2 : (unpR b).2 = 0
    · unfold merX
      rw [com_comm, h1, h2]
    unfold merX at h
    rw [if_neg (not_not_intro h1), if_pos h2] at h
    exact absurd h h2
  unfold merX at h
  rw [if_pos h1] at h
  exact absurd h h1
theorem rmrg_c (H : AHeap) (s : AV) (a : List Tl) (r : AV) (b : List Tl) (hs : Sl H 3 s a.length (tlR a)) (hr : Sl H 3 r b.length (tlR b)) (hl : a.length ≤ 1000) (hl2 : b.length ≤ 1000) (hok : tlOk H a) (hok2 : tlOk H b) (hla : (unpR a).1.length ≤ 30000) (hlb : (unpR b).1.length ≤ 30000) : ACalls Tryz.prog 7 [s, r] H (fun v H' => ∃ w, v = .tup [w, .int .i64 (merX unpR comR a b).2] ∧ TAt H (merX unpR comR a b).1 w H') := by
  obtain ⟨bs, os, cs, rfl, hbs⟩ := hs
  obtain ⟨br, or, cr, rfl, hbr⟩ := hr
  have hbls := getElem?_lt hbs
  have hb0s := fun l => get_app (l := l) hbs
  have hblr := getElem?_lt hbr
  have hb0r := fun l => get_app (l := l) hbr
  have hva := unp_vld (ts := a) (by omega)
  have hvb := unp_vld (ts := b) (by omega)
  refine AcT true Tryz.func7 ?_; intro hbel Q hQ
  have g'1 := (jn @hbs (jn @hb0s (jn @hbr @hb0r)))
  refine runTf g'1 ?_
  refine cv (rupk_u _ _ a (⟨_, _, _, rfl, by first | exact hb0s _ | exact hbs⟩) (by omega) (by first | assumption | exact tlOk.app (by assumption) _)) ?_
  refine rcs g'1 (fun h1 h1d _ => ?_) (fun h1 h1d _ => ?_)
  · have h1n := bnT h1
    have g'2 := (jn h1 (jn h1n (jn @int_bne (jn @int_beq g'1))))
    refine runTf g'2 ?_
    exact hQ _ _ (end_tnil rfl (hbel_r4 hbel) [.int .i64 (unpR a).2] rfl (resT Tryz.results7) fun w H' hT => ⟨w, by rw [merX, if_pos h1d], by rw [merX, if_pos h1d]; exact hT⟩)
  have h1n := bnT h1
  have g'3 := (jn h1 (jn h1n (jn @int_bne (jn @int_beq g'1))))
  refine runTf g'3 ?_
  refine cv (rupk_u _ _ b (⟨_, _, _, rfl, by first | exact hb0r _ | exact hbr⟩) (by omega) (by first | assumption | exact tlOk.app (by assumption) _)) ?_
  refine rcs g'3 (fun h2 h2d _ => ?_) (fun h2 h2d _ => ?_)
  · have h2n := bnT h2
    have g'4 := j2 h2 h2n g'3
    refine runTf g'4 ?_
    exact hQ _ _ (end_tnil rfl (hbel_r42 hbel) [.int .i64 (unpR b).2] rfl (resT Tryz.results7) fun w H' hT => ⟨w, by rw [merX, if_neg (not_not_intro h1d), if_pos h2d], by rw [merX, if_neg (not_not_intro h1d), if_pos h2d]; exact hT⟩)
  have h2n := bnT h2
  have g'5 := j2 h2 h2n g'3
  refine runTf g'5 ?_
  refine cv (radd_u _ _ (unpR a).1 _ (unpR b).1 (slA) (slA) (by omega) (by omega)) ?_
  refine rcs g'5 (fun h3 h3d _ => ?_) (fun h3 h3d _ => ?_)
  · have h3n := bnT h3
    have g'6 := j2 h3 h3n g'5
    refine runTf g'6 ?_
    exact hQ _ _ (end_tnil rfl (hbel_r43 hbel) [.int .i64 (comR (unpR a).1 (unpR b).1).2] rfl (resT Tryz.results7) fun w H' hT => ⟨w, by rw [merX, if_neg (not_not_intro h1d), if_neg (not_not_intro h2d), if_pos h3d], by rw [merX, if_neg (not_not_intro h1d), if_neg (not_not_intro h2d), if_pos h3d]; exact hT⟩)
  have h3n := bnT h3
  have hvc := com_vld (a := (unpR a).1) (b := (unpR b).1) (by omega) h3d
  have hlc := hvc.2
  have g'7 := j2 h3 h3n g'5
  refine runTf g'7 ?_
  refine call_of (by kernel_rfl) (rpackT_e _ _ (comR (unpR a).1 (unpR b).1).1 _ 0 (packX_t (vldE_iff.2 hvc.1)) (by exact slA) (by omega) (hbel_r43 hbel)) ?_
  rintro _ H' ⟨w, rfl, hT⟩
  refine runTf g'7 ?_
  exact hQ _ _ (end_tat (TAt.up hT) [.int .i64 0] rfl (resT Tryz.results7) ⟨w, by rw [merX, if_neg (not_not_intro h1d), if_neg (not_not_intro h2d), if_neg (not_not_intro h3d)], by rw [merX, if_neg (not_not_intro h1d), if_neg (not_not_intro h2d), if_neg (not_not_intro h3d)]; exact TAt.up hT⟩)
theorem merX_len {a b : List Tl} (ha : (unpR a).1.length ≤ 30000) (hb : (unpR b).1.length ≤ 30000) : (merX unpR comR a b).1.length ≤ 100000 := by
  unfold merX
  split
  · exact Nat.zero_le _
  split
  · exact Nat.zero_le _
  split
  · exact Nat.zero_le _
  rename_i h
  have hc := com_vld (a := (unpR a).1) (b := (unpR b).1) (by omega) (by simpa using h)
  have := packL_len (comR (unpR a).1 (unpR b).1).1
  show (packL _).length ≤ _
  omega
theorem tmrg_e (H : AHeap) (s : AV) (a : List Tl) (r : AV) (b : List Tl) (p : List (Int × Int × List Int)) (e : Int) (h : merX unpR comR a b = (p, e)) (hs : Sl H 3 s a.length (tlR a)) (hr : Sl H 3 r b.length (tlR b)) (hl : a.length ≤ 1000) (hl2 : b.length ≤ 1000) (hok : tlOk H a) (hok2 : tlOk H b) (hla : (unpR a).1.length ≤ 30000) (hlb : (unpR b).1.length ≤ 30000) : ACalls Tryz.prog 6 [s, r] H (fun v H' => ∃ w, v = .tup [w, .int .i64 e] ∧ TAt H p w H') := by
  have := tmrg_c H s a r b hs hr hl hl2 hok hok2 hla hlb
  rwa [h] at this
theorem rmrg_e (H : AHeap) (s : AV) (a : List Tl) (r : AV) (b : List Tl) (p : List (Int × Int × List Int)) (e : Int) (h : merX unpR comR a b = (p, e)) (hs : Sl H 3 s a.length (tlR a)) (hr : Sl H 3 r b.length (tlR b)) (hl : a.length ≤ 1000) (hl2 : b.length ≤ 1000) (hok : tlOk H a) (hok2 : tlOk H b) (hla : (unpR a).1.length ≤ 30000) (hlb : (unpR b).1.length ≤ 30000) : ACalls Tryz.prog 7 [s, r] H (fun v H' => ∃ w, v = .tup [w, .int .i64 e] ∧ TAt H p w H') := by
  have := rmrg_c H s a r b hs hr hl hl2 hok hok2 hla hlb
  rwa [h] at this
theorem same_b (H : AHeap) (s : AV) (l : List Tl) (r : AV) (m : List Tl) (hs : Sl H 3 s l.length (tlR l)) (hr : Sl H 3 r m.length (tlR m)) (hl : l.length ≤ 100000) (hm : m.length ≤ 100000) (hok : tlOk H l) (hok2 : tlOk H m) (h : l.map tl3 = m.map tl3) : ACalls Tryz.prog 8 [s, r] H (fun v H' => v = .bool true ∧ H' = H) := by
  have := same_c H s l r m hs hr hl hm hok hok2
  rwa [decide_eq_true h] at this
theorem lmerges_c (H : AHeap) (s : AV) (a : List Tl) (r : AV) (b : List Tl) (hs : Sl H 3 s a.length (tlR a)) (hls : a.length ≤ 9223372036854775807) (hoks : tlOk0 H a) (hr : Sl H 3 r b.length (tlR b)) (hlr : b.length ≤ 9223372036854775807) (hokr : tlOk0 H b) : ACalls Tryz.prog 3 [s, r] H (fun v H' => v = .bool true ∧ H' = H) := by
  have hs0 := hs
  obtain ⟨bs, os, cs, rfl, hbs⟩ := hs
  have hbls := getElem?_lt hbs
  have hb0s := fun l => get_app (l := l) hbs
  have hr0 := hr
  obtain ⟨br, or, cr, rfl, hbr⟩ := hr
  have hblr := getElem?_lt hbr
  have hb0r := fun l => get_app (l := l) hbr
  refine AcT true Tryz.func3 ?_; intro hbel Q hQ
  have g'1 := (jn @hbs (jn @hb0s (jn @hbr @hb0r)))
  refine runTf g'1 ?_
  refine cvr g'1 (awk_c _) ?_
  refine cvr g'1 (few_c _ _ a (by first | exact hs0 | exact hs0.app _) (by omega) (by first | exact hoks | exact hoks.app _)) ?_
  refine gd_split (fun h1 => ?_) (fun h1 => ?_)
  rotate_left
  · have h1d := bsT h1
    have g'2 := j2 h1 h1d g'1
    refine runTf g'2 ?_
    refine cvr g'2 (awk_c _) ?_
    exact eQ hQ hbel (.bool true) Tryz.results3 ⟨rfl, rfl⟩
  have h1d := bsT h1
  have hfa : fewB a = true := by simpa using h1
  have g'3 := j2 h1 h1d g'1
  refine runTf g'3 ?_
  refine cvr g'3 (few_c _ _ b (by first | exact hr0 | exact hr0.app _) (by omega) (by first | exact hokr | exact hokr.app _)) ?_
  refine cond_split (fun h2 => ?_) (fun h2 => ?_)
  · have h2d := bsT h2
    have g'4 := j2 h2 h2d g'3
    refine runTf g'4 ?_
    refine cvr g'4 (awk_c _) ?_
    exact eQ hQ hbel (.bool true) Tryz.results3 ⟨rfl, rfl⟩
  have hfb : fewB b = true := by simpa using h2
  obtain ⟨hla, hka, -⟩ := few_ok hfa hoks
  obtain ⟨hlb, hkb, -⟩ := few_ok hfb hokr
  have hva := (unp_vld (ts := a) (by omega)).2
  have hvb := (unp_vld (ts := b) (by omega)).2
  obtain ⟨p, e, hp⟩ : ∃ q1 q2, merX unpR comR a b = (q1, q2) := ⟨_, _, rfl⟩
  obtain ⟨q, g, hq⟩ : ∃ q1 q2, merX unpR comR b a = (q1, q2) := ⟨_, _, rfl⟩
  have hpl : p.length ≤ 100000 := by have := merX_len (a := a) (b := b) (by omega) (by omega); rw [hp] at this; exact this
  have hql : q.length ≤ 100000 := by have := merX_len (a := b) (b := a) (by omega) (by omega); rw [hq] at this; exact this
  have g'5 := j2 h2 hfb g'3
  refine runTf g'5 ?_
  refine call_of (by kernel_rfl) (tmrg_e _ _ a _ b p e hp (by first | exact hs0 | exact hs0.app _) (by first | exact hr0 | exact hr0.app _) (by omega) (by omega) (by first | exact hka | exact hka.app _) (by first | exact hkb | exact hkb.app _) (by omega) (by omega)) ?_
  rintro _ M1 ⟨w1, rfl, hT1⟩
  obtain ⟨X1, hX1⟩ := hT1.ex
  obtain ⟨ts1, hts1, hsl1, hok1⟩ := hT1.ts
  have hs1 : Sl M1 3 (.sl (some (bs, 0)) a.length cs) a.length (tlR a) := by rw [hX1]; exact hs0.app _
  have hr1 : Sl M1 3 (.sl (some (br, 0)) b.length cr) b.length (tlR b) := by rw [hX1]; exact hr0.app _
  have hka1 : tlOk M1 a := by rw [hX1]; exact hka.app _
  have hkb1 : tlOk M1 b := by rw [hX1]; exact hkb.app _
  refine runTf g'5 ?_
  refine call_of (by kernel_rfl) (rmrg_e _ _ a _ b p e hp (by exact hs1) (by exact hr1) (by omega) (by omega) hka1 hkb1 (by omega) (by omega)) ?_
  rintro _ M2 ⟨w2, rfl, hT2⟩
  obtain ⟨X2, hX2⟩ := hT2.ex
  obtain ⟨ts2, hts2, hsl2, hok2⟩ := hT2.ts
  have hs2 : Sl M2 3 (.sl (some (bs, 0)) a.length cs) a.length (tlR a) := by rw [hX2]; exact hs1.app _
  have hr2 : Sl M2 3 (.sl (some (br, 0)) b.length cr) b.length (tlR b) := by rw [hX2]; exact hr1.app _
  have hka2 : tlOk M2 a := by rw [hX2]; exact hka1.app _
  have hkb2 : tlOk M2 b := by rw [hX2]; exact hkb1.app _
  have hsl12 : Sl M2 3 w1 ts1.length (tlR ts1) := by rw [hX2]; exact hsl1.app _
  have hok12 : tlOk M2 ts1 := by rw [hX2]; exact hok1.app _
  refine runTf g'5 ?_
  refine call_of (by kernel_rfl) (tmrg_e _ _ b _ a q g hq (by exact hr2) (by exact hs2) (by omega) (by omega) hkb2 hka2 (by omega) (by omega)) ?_
  rintro _ M3 ⟨w3, rfl, hT3⟩
  obtain ⟨X3, hX3⟩ := hT3.ex
  obtain ⟨ts3, hts3, hsl3, hok3⟩ := hT3.ts
  have hsl13 : Sl M3 3 w1 ts1.length (tlR ts1) := by rw [hX3]; exact hsl12.app _
  have hok13 : tlOk M3 ts1 := by rw [hX3]; exact hok12.app _
  have hsl23 : Sl M3 3 w2 ts2.length (tlR ts2) := by rw [hX3]; exact hsl2.app _
  have hok23 : tlOk M3 ts2 := by rw [hX3]; exact hok2.app _
  have hn1 : ts1.length ≤ 100000 := by
    have := congrArg List.length hts1
    rw [List.length_map] at this
    omega
  have hn2 : ts2.length ≤ 100000 := by
    have := congrArg List.length hts2
    rw [List.length_map] at this
    omega
  have hn3 : ts3.length ≤ 100000 := by
    have := congrArg List.length hts3
    rw [List.length_map] at this
    omega
  refine runTf g'5 ?_
  refine cvr g'5 (same_b _ _ ts1 _ ts2 (by exact hsl13) (by exact hsl23) hn1 hn2 hok13 hok23 (hts1.trans hts2.symm)) ?_
  by_cases he : e = 0
  · subst he
    have hc := mer_comm (a := a) (b := b) (by rw [hp])
    rw [hp, hq] at hc
    obtain ⟨rfl, rfl⟩ := Prod.mk.inj hc
    refine runTf g'5 ?_
    refine cvr g'5 (same_b _ _ ts1 _ ts3 (by exact hsl13) (by exact hsl3) hn1 hn3 hok13 hok3 (hts1.trans hts3.symm)) ?_
    refine hQ _ _ ?_
    rw [hX3, hX2, hX1]; simp only [List.append_assoc]
    exact end_plain (.inl rfl) hbel (x := .bool true) (resT Tryz.results3) rfl ⟨rfl, rfl⟩
  have hg : ¬ g = 0 := fun hg => by
    have hc := mer_comm (a := b) (b := a) (by rw [hq]; exact hg)
    rw [hp, hq] at hc
    exact he ((Prod.mk.inj hc).2.trans hg)
  have hen : (e != 0) = true := by simpa using he
  have hen2 : (e == 0) = false := by simpa using he
  have hgn2 : (g == 0) = false := by simpa using hg
  have g'6 := (jn @hen (j2 hen2 hgn2 g'5))
  refine runTf g'6 ?_
  refine hQ _ _ ?_
  rw [hX3, hX2, hX1]; simp only [List.append_assoc]
  exact end_plain (.inl rfl) hbel (x := .bool true) (resT Tryz.results3) rfl ⟨rfl, rfl⟩
set_option maxRecDepth 100000 in
theorem tileMerges_top (H : AHeap) (xs : List AV) (hn : xs.length = 2) (hy : ∀ (j : Nat) (t : TypeId) (x : AV), [22, 22][j]? = some t → xs[j]? = some x → ATy Tryz.prog H 9 t x) : ACalls Tryz.prog 3 xs H (fun v H' => v = .bool true ∧ H' = H) := by
  match xs, hn, hy with
  | [a0, a1], _, hy =>
    have hu : ∃ te, Tryz.prog.underlying 40 = some (.slice te) ∧ Tryz.prog.underlying te = some (.int .u8) ∧ leafs Tryz.prog 7 te = some [te] := ⟨5, by kernel_rfl, by kernel_rfl, by kernel_rfl⟩
    obtain ⟨te, u1, u2, u3⟩ := hu
    have t0 := (hy 0 _ a0 rfl rfl).one (by kernel_rfl) (by kernel_rfl)
    obtain ⟨l0, s0, m0, w0⟩ := t0.tls (n := 6) (t := 22) (e := 42) (ti := 3) (ts := 40) (te := te) (by kernel_rfl) (by kernel_rfl) (by kernel_rfl) u1 u2 (by exact u3)
    have t1 := (hy 1 _ a1 rfl rfl).one (by kernel_rfl) (by kernel_rfl)
    obtain ⟨l1, s1, m1, w1⟩ := t1.tls (n := 6) (t := 22) (e := 42) (ti := 3) (ts := 40) (te := te) (by kernel_rfl) (by kernel_rfl) (by kernel_rfl) u1 u2 (by exact u3)
    exact lmerges_c H _ l0 _ l1 s0 (by have q := m0; unfold maxLen at q; exact q) w0 s1 (by have q := m1; unfold maxLen at q; exact q) w1
section
open Go.ChangeShapes Go.WideShapes Go.ChangeAt Go.Joins
open Go.ChangeMaps (open_string shut_string)
set_option maxRecDepth 100000 in
theorem tileMerges_lifted (os : Os) (started : os.Started) (H : Type) (enc : TypeId × Value → H) :
    ReturnsInHanded {} Tryz.checked os 3 .any (Rows.tileMergesSpec.pre6 enc Tryz.prog Tryz.f3 Rows.tileMergesRow.domain false) (Rows.tileMergesSpec.post enc Tryz.prog Tryz.f3 false true false false) := by
  refine returnsInHanded_of_change (C := Tryz.checked) own started (by kernel_rfl) Tryz.func3
    (ChangeSpec.witness6 (enc := enc) (C := Tryz.checked) false ⟨#[], #[.slice none 0 0, .slice none 0 0], []⟩ 8 (by kernel_rfl) (by kernel_rfl) (by kernel_rfl) (by kernel_rfl)) ?_
  intro W base args ds gs before hval0 hW hcnd _
  have hval : ∀ (j : Nat) t v, Tryz.f3.params[j]? = some t → args[j]? = some v → Value.okWide Tryz.prog W .any base t v := hval0
  have hW' := hW
  obtain ⟨p, q, hA0, hV, rfl, hfz, hnd⟩ := hW
  have hA : DataW.TrodAll enc Tryz.prog W 0 (fun _ => true) true Tryz.f3.params.toList args.toList ds p := hA0
  rw [Tryz.params3] at hA hval
  have hwalk := calls_top (n := 9) (f := 3) hA (fun j t v a b => hval j t v (by simpa using a) (by simpa using b)) (by kernel_rfl) (fun H xs hn hy => tileMerges_top H xs hn hy)
  rw [Array.toArray_toList] at hwalk
  obtain ⟨v0, vs0, d0, ds0, p0, q0, hargs, rfl, rfl, h0, r0⟩ := trodAll_cons hA
  obtain ⟨v1, vs1, d1, ds1, p1, q1, rfl, rfl, rfl, h1, r1⟩ := trodAll_cons r0
  obtain ⟨rfl, rfl, rfl⟩ := trodAll_nil r1
  obtain rfl : args = #[v0, v1] := by cases args; simp_all
  obtain ⟨rfl, rfl⟩ := trodVars_none hV
  have k0 := h0
  have lt0 : ∀ x ∈ p0, x.block < W.heap.size := by obtain ⟨m, hm⟩ := k0; exact DataW.trod_lt m _ _ _ hm
  have k1 := h1
  have lt1 : ∀ x ∈ p1, x.block < W.heap.size := by obtain ⟨m, hm⟩ := k1; exact DataW.trod_lt m _ _ _ hm
  clear hA0 hval0
  refine hwalk.mono fun e W' ⟨he, bel⟩ => ?_
  subst he
  exact ⟨_, rfl, _, _, _, [], _, [], hW', trodAll_mk1 (shut_bool Tryz.underlying4 _), (trodAll_cons_mk (Below.trod laidOut (by kernel_rfl) (of_decide_eq_true (by kernel_rfl)) k0 bel lt0) (trodAll_cons_mk (Below.trod laidOut (by kernel_rfl) (of_decide_eq_true (by kernel_rfl)) k1 bel lt1) trodAll_mk0)), rfl, bel.frame _, fun h => by cases h⟩
theorem and_t {a b : Bool} (h : a = true) (k : b = true) : (a && b) = true := by rw [h, k]; rfl
theorem tileMerges_h0 : (Rows.tileMergesRow.inPlace == Tryz.pinned.checked.prog.inPlace 3) = true := by kernel_rfl
theorem tileMerges_h1 : (Rows.tileMergesRow.unfollowed == Tryz.pinned.checked.prog.unfollowed 3) = true := by kernel_rfl
theorem tileMerges_h2 : (Rows.tileMergesRow.recurses == Tryz.pinned.checked.prog.recurses 3) = true := by kernel_rfl
theorem tileMerges_h3 : (Rows.tileMergesRow.named == Tryz.pinned.checked.prog.varsNamed 3) = true := by kernel_rfl
theorem tileMerges_h4 : Tryz.pinned.checked.prog.stopsHeard = true := by kernel_rfl
theorem tileMerges_h5 : Tryz.pinned.checked.prog.mayEnter = true := by kernel_rfl
theorem tileMerges_h6 : (Rows.tileMergesRow.lifted == Tryz.pinned.checked.prog.liftsFinal) = true := by kernel_rfl
theorem tileMerges_closed : joinedFacts Tryz.pinned.checked.prog 3 Tryz.f3 Rows.tileMergesSpec Rows.tileMergesRow = true := by
  unfold joinedFacts
  exact (and_t (and_t (and_t (and_t (and_t (and_t (and_t (and_t (and_t (and_t (and_t (and_t (and_t (and_t (and_t (and_t (and_t (and_t (and_t (and_t (and_t (and_t (and_t (and_t (and_t (and_t (and_t (and_t (and_t (and_t (and_t (by kernel_rfl) laidOut) (by kernel_rfl)) (by kernel_rfl)) (by kernel_rfl)) (by kernel_rfl)) (by kernel_rfl)) (by kernel_rfl)) (by kernel_rfl)) tileMerges_h0) tileMerges_h1) tileMerges_h2) tileMerges_h3) (by kernel_rfl)) (by kernel_rfl)) (by kernel_rfl)) (by kernel_rfl)) (by kernel_rfl)) (by kernel_rfl)) (by kernel_rfl)) (by kernel_rfl)) (by kernel_rfl)) (by kernel_rfl)) (by kernel_rfl)) tileMerges_h4) tileMerges_h5) tileMerges_h6) (by kernel_rfl)) (by kernel_rfl)) (by kernel_rfl)) (by kernel_rfl)) (by kernel_rfl))
theorem tileMerges_over : Rows.tileMergesRow.holds Tryz.pinned (OpenSpec.ofChange Rows.tileMergesSpec) :=
  OpenClaim.holds_of_wide 3 Tryz.f3 rfl rfl rfl rfl rfl rfl rfl ⟨rfl, rfl, rfl, rfl, rfl⟩ rfl rfl rfl rfl rfl (by kernel_rfl) Tryz.func3 tileMerges_closed
    (of_decide_eq_true (by kernel_rfl)) (by unfold Func.isWrapper; rw [if_neg (by decide +kernel)]; exact ⟨rfl, rfl⟩)
    (fun os started H enc _ => tileMerges_lifted os started H enc)
/-- The given statement. -/
theorem tileMerges_proved : Rows.TileMergesSaid := tileMerges_over
end
end Go.Proofs.YtgfjhidfpjmmnaaGreat
