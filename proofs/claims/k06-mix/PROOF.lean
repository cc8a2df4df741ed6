import PyProof.Rows.All
import Wide.All
import OpenK.AllK
import Wide.FinOn
import HandS.ForMost
import HandS.Wide
import PySem.Challenge.RW_recallrow_k06_mix
set_option Elab.async false
set_option maxRecDepth 100000
set_option maxHeartbeats 4000000
namespace Lw
open PySem L2
def top (i : Nat) : Stmt := PySem.Challenge.pw_recallrow_k06_mix.main.body.getD i (.Pass ⟨0, 0, 0, 0⟩)
abbrev sMix : Stmt := top 2
abbrev sNum : Stmt := top 4
abbrev sDraw : Stmt := top 5
abbrev sTake : Stmt := top 6
abbrev sMixL : Stmt := top 7
abbrev sLaw : Stmt := top 8

/-! ### the mathematics -/
def mixStep (x : Int) : Int := (x * x + x + 12345) % 2305843009213693951
def mixZ (a b : Int) : Int := mixStep (mixStep (mixStep ((a + 1) * 2654435761 + b * 40503)))
def mixIt : Nat → Int → Int
  | 0, x => x
  | n + 1, x => mixStep (mixIt n x)
def nts (rs : List Int) : List V := rs.map V.int

/-! ### the promises -/
def spNum (K : PySem.W.Frag) : Sp := fun vs H Q _ => ∃ (a : Addr) (ns : List Int), vs = [.ref a] ∧ SqL K H a (ns.map V.int) ∧ ns.length ≤ 63 ∧
  ∀ (p : Addr) (rs : List Int) (H' : Hp), H p = none → Same H H' → H' p = some (.lst (nts rs)) → 1 ≤ rs.length → rs.length ≤ 4000 → Q (.ref p) H'
def spDraw : Sp := fun vs H Q _ => ∃ (p : Addr) (rs : List Int) (at_ lim : Int), vs = [.ref p, .int at_, .int lim] ∧ H p = some (.lst (nts rs)) ∧ 1 ≤ rs.length ∧ rs.length ≤ 4000 ∧ 0 ≤ at_ ∧ at_ < 10000 ∧ 0 < lim ∧
  ∀ r : Int, 0 ≤ r → r < lim → Q (.int r) H
def spTake : Sp := fun vs H Q _ => ∃ (p q : Addr) (rs : List Int) (n lim : Int), vs = [.ref p, .ref q, .int lim] ∧ H p = some (.lst (nts rs)) ∧ H q = some (.lst [.int n]) ∧ p ≠ q ∧ 1 ≤ rs.length ∧ rs.length ≤ 4000 ∧ 0 ≤ n ∧ n < 9000 ∧ 0 < lim ∧
  ∀ r : Int, 0 ≤ r → r < lim → Q (.int r) (upd H q (.lst [.int (n + 1)]))
def spMix : Sp := fun vs H Q _ => ∃ a b : Int, vs = [.int a, .int b] ∧ a.natAbs < 2 ^ 300 ∧ b.natAbs < 2 ^ 300 ∧ Q (.int (mixZ a b)) H
def spLaw (K : PySem.W.Frag) : Sp := fun vs H Q _ => ∃ (a : Addr) (ns : List Int), vs = [.ref a] ∧ SqL K H a (ns.map V.int) ∧ ns.length ≤ 63 ∧ ∀ H', Q (.bl true) H'

structure Txt (K : PySem.W.Frag) (mg : Str → Option Value) : Prop where
  len : mg "len" = none
  rng : mg "range" = none
  int_ : mg "int" = none
  md : ∃ t, mg "MODULUS" = some (.int 2305843009213693951 t)
section
variable {P : Program} {w : World} {K : PySem.W.Frag} {mg : Str → Option Value} {base : Heap}
theorem scN : FnScope ["script", "row", "cell", "left", "k", "mixed"] ["script"] (defScope sNum) := ⟨rfl, rfl, rfl, by decide +kernel, rfl, by decide +kernel, by decide +kernel⟩
theorem scD : FnScope ["row", "at", "limit", "mixed"] ["row", "at", "limit"] (defScope sDraw) := ⟨rfl, rfl, rfl, by decide +kernel, rfl, by decide +kernel, by decide +kernel⟩
theorem scT : FnScope ["row", "spot", "limit"] ["row", "spot", "limit"] (defScope sTake) := ⟨rfl, rfl, rfl, by decide +kernel, rfl, by decide +kernel, by decide +kernel⟩
theorem scM : FnScope ["a", "b", "x", "_"] ["a", "b"] (defScope sMix) := ⟨rfl, rfl, rfl, by decide +kernel, rfl, by decide +kernel, by decide +kernel⟩
theorem scML : FnScope ["a", "b", "x", "k"] ["a", "b"] (defScope sMixL) := ⟨rfl, rfl, rfl, by decide +kernel, rfl, by decide +kernel, by decide +kernel⟩

theorem ok_num {f : Addr} {fd : FuncData} (F : Fun K "_law_numbers" "_law_numbers" sNum f fd) (T : Txt K mg) : FnOk P w K mg base CX0 1 f fd ["script"] (spNum K) := by
  refine F.ok scN (fun vs H Q E h => ?_) (fun cdv A outer s H vs Q E hr h => ?_)
  · obtain ⟨a, ns, rfl, _⟩ := h
    rfl
  · obtain ⟨a, ns, rfl, hS, hl, k⟩ := h
    refine ⟨_, pss_cons (ps_set (i := 1) scN.nd rfl (Or.inl rfl) (pe_lst pa_nil))
      (pss_cons (ps_for PassesOwn.never rfl (pi_list (pe_slice sl_list (pv 0) po_none (po_some pe_int))) (pg_name (i := 2) scN.nd rfl (Or.inl rfl))
        (pss_one (ps_if (pt_cmpR op_ge (pv 2) (pe_op op_pow pe_int pe_int) (nomark _))
          (pss_cons (ps_set (i := 3) scN.nd rfl (Or.inl rfl) (pv 2))
            (pss_one (ps_for PassesOwn.never rfl (pi_range1 rfl T.rng (pa_cons pe_int pa_nil)) (pg_name (i := 4) scN.nd rfl (Or.inl rfl))
              (pss_cons (ps_if (pt_cmpR op_eq (pv 3) pe_int (nomark _)) (pss_one ps_break) pss_nil)
              (pss_cons (ps_expr (pe_bm PySem.F.plainAttrs_list PySem.F.slot_list_append PySem.F.type_list_append mt_append (pv 1) (pa_cons (pe_op op_mod (pe_callTy call_int1 (by rfl) T.int_ PyProof.Rows.boot_int (pa_cons (pv 3) pa_nil)) pe_int) pa_nil)))
              (pss_one (ps_set (i := 3) scN.nd rfl (Or.inl rfl) (pe_op op_fdiv (pv 3) pe_int))))))))
          (pss_one (ps_for PassesOwn.never rfl (pi_range1 rfl T.rng (pa_cons pe_int pa_nil)) (pg_name (i := 4) scN.nd rfl (Or.inl rfl))
              (pss_cons (ps_set (i := 5) scN.nd rfl (Or.inl rfl) (pe_op op_mod (pe_callTy call_int1 (by rfl) T.int_ PyProof.Rows.boot_int (pa_cons (pe_op op_add (pe_op op_add (pe_op op_mul (pv 2) pe_int) (pe_op op_mul (pv 4) pe_int)) pe_int) pa_nil)) pe_int))
              (pss_one (ps_expr (pe_bm PySem.F.plainAttrs_list PySem.F.slot_list_append PySem.F.type_list_append mt_append (pv 1) (pa_cons (pe_op op_mod (pe_callTy call_int1 (by rfl) T.int_ PyProof.Rows.boot_int (pa_cons (pe_op op_add (pe_op op_mul (pv 5) pe_int) (pv 4)) pa_nil)) pe_int) pa_nil))))))))))
      (pss_cons (ps_if (pt_cmpR op_eq (pe_callB call_len_seq (by rfl) T.len PySem.boot_len (pa_cons (pv 1) pa_nil)) pe_int (nomark _))
          (pss_one (ps_expr (pe_bm PySem.F.plainAttrs_list PySem.F.slot_list_append PySem.F.type_list_append mt_append (pv 1) (pa_cons pe_int pa_nil)))) pss_nil)
      (pss_one (ps_ret (pv 1))))), ?_⟩
    refine ⟨Nat.zero_le _, fun p hp => ?_⟩
    have s1 : Same H (upd H p (.lst [])) := fun b o e => by rw [upd_ne (ne_of_none e hp)]; exact e
    refine ⟨_, rfl, _, rfl, a, _, rfl, s1.seq hS, fun q hq => ?_⟩
    have npq : p ≠ q := fun e => by rw [← e, upd_same] at hq; cases hq
    have s2 : Same (upd H p (.lst [])) (upd (upd H p (.lst [])) q (.lst (cutV (ns.map V.int) none (some 63)))) := fun b o e => by rw [upd_ne (ne_of_none e hq)]; exact e
    have hcut : ∃ ms : List Int, cutV (ns.map V.int) none (some 63) = ms.map V.int ∧ ms.length ≤ 63 := by
      refine ⟨(ns.drop (HT.sIx (ns.map V.int).length 0 none)).take (HT.sIx (ns.map V.int).length (ns.map V.int).length (some 63) - HT.sIx (ns.map V.int).length 0 none), ?_, ?_⟩
      · unfold cutV
        rw [List.map_take, List.map_drop]
      · rw [List.length_take, List.length_drop]
        omega
    obtain ⟨ms, ems, hms⟩ := hcut
    rw [ems]
    have s3 : Same H (upd (upd H p (.lst [])) q (.lst (ms.map V.int))) := fun b o e => by
      rw [upd_ne (ne_of_none (s1 b o e) hq)]; exact s1 b o e
    refine ⟨q, rfl, ⟨_, SqL.of upd_same⟩, for_list (K := K) (a := q) (xs := ms.map V.int) (fun i σ H' => ∃ (rs : List Int) (c l kk m : Option V), σ = [some (.ref a), some (.ref p), c, l, kk, m] ∧ Same H H' ∧ H' p = some (.lst (nts rs)) ∧ H' q = some (.lst (ms.map V.int)) ∧ rs.length ≤ 60 * i)
      ⟨[], _, _, _, _, rfl, s3, by rw [upd_ne npq, upd_same]; rfl, upd_same, Nat.zero_le _⟩ (fun i σ H' _ ⟨_, _, _, _, _, _, _, _, hq, _⟩ => SqL.of hq) ?_ ?_⟩
    · rintro i y σ H' hi ⟨rs, c, l, kk, m, rfl, s4, hp4, hq4, hlen⟩
      have him : i < ms.length := by
        have z := (List.getElem?_eq_some_iff.mp hi).1
        rwa [List.length_map] at z
      obtain ⟨z, rfl⟩ : ∃ z, y = V.int z := by
        rw [List.getElem?_map] at hi
        cases e : ms[i]? with
        | none => rw [e] at hi; cases hi
        | some z => rw [e] at hi; exact ⟨z, (Option.some.inj hi).symm⟩
      refine ⟨_, rfl, _, _, rfl, rfl, ⟨by decide, by decide, by decide⟩, _, _, rfl, rfl, _, rfl, ?_⟩
      refine ite2 (fun _ => ?_) (fun _ => ?_)
      · refine ⟨_, rfl, 60, rfl, by decide, by decide, for_range (n := 60) (fun j σ H' => ∃ (rs' : List Int) (c kk m : Option V) (l : Int), σ = [some (.ref a), some (.ref p), c, some (.int l), kk, m] ∧ Same H H' ∧ H' p = some (.lst (nts rs')) ∧ H' q = some (.lst (ms.map V.int)) ∧ rs'.length ≤ rs.length + j)
          ⟨rs, _, _, _, _, rfl, s4, hp4, hq4, by omega⟩ ?_ ?_⟩
        · rintro j σ H5 hj ⟨rs', c', kk', m', l', rfl, s5, hp5, hq5, hlen'⟩
          refine ⟨_, rfl, rfl, _, rfl, ite2 (fun _ => ?_) (fun _ => ?_)⟩
          · exact ⟨rs', _, _, _, _, rfl, s5, hp5, hq5, by omega⟩
          · refine ⟨_, rfl, .inl ⟨rfl, _, SqL.of hp5⟩, _, rfl, .inl ⟨_, rfl, _, _, rfl, rfl, (by show (0 : Int) < 997; decide), p, _, _, rfl, rfl, hp5, (by show (nts rs').length < sizeLine; rw [nts, List.length_map]; exact Nat.lt_of_lt_of_le (show rs'.length < 4000 by omega) (by decide)), ?_⟩⟩
            refine ⟨_, rfl, _, _, rfl, rfl, ⟨by decide, by decide⟩, ?_⟩
            refine ⟨rs' ++ [l' % 997], _, _, _, _, rfl, fun b o e => ?_, ?_, ?_, ?_⟩
            · rw [upd_ne (ne_of_none e hp)]; exact s5 b o e
            · rw [upd_same, nts, nts, List.map_append]; rfl
            · rw [upd_ne (Ne.symm npq)]; exact hq5
            · rw [List.length_append, List.length_singleton]; omega
        · rintro σ H5 ⟨rs', c', kk', m', l', rfl, s5, hp5, hq5, hlen'⟩
          exact ⟨rs', _, _, _, _, rfl, s5, hp5, hq5, by omega⟩
      · refine ⟨4, rfl, by decide, by decide, for_range (n := 4) (fun j σ H' => ∃ (rs' : List Int) (l kk m : Option V), σ = [some (.ref a), some (.ref p), some (.int z), l, kk, m] ∧ Same H H' ∧ H' p = some (.lst (nts rs')) ∧ H' q = some (.lst (ms.map V.int)) ∧ rs'.length ≤ rs.length + j)
          ⟨rs, _, _, _, rfl, s4, hp4, hq4, by omega⟩ ?_ ?_⟩
        · rintro j σ H5 hj ⟨rs', l', kk', m', rfl, s5, hp5, hq5, hlen'⟩
          refine ⟨_, rfl, _, _, rfl, rfl, .inr ⟨by decide, by decide⟩, _, rfl, _, _, rfl, rfl, .inr ⟨by decide, by decide⟩, _, _, rfl, rfl, _, _, rfl, rfl, .inl ⟨_, rfl, _, _, rfl, rfl, (by show (0 : Int) < 2147483647; decide), ?_⟩⟩
          refine ⟨_, rfl, .inl ⟨rfl, _, SqL.of hp5⟩, _, rfl, _, _, rfl, rfl, .inr ⟨by decide, by decide⟩, _, rfl, _, _, rfl, rfl, .inl ⟨_, rfl, _, _, rfl, rfl, (by show (0 : Int) < 2147483629; decide), p, _, _, rfl, rfl, hp5, (by show (nts rs').length < sizeLine; rw [nts, List.length_map]; exact Nat.lt_of_lt_of_le (show rs'.length < 4000 by omega) (by decide)), ?_⟩⟩
          refine ⟨rs' ++ [((z * 48271 + (0 + (j : Int)) * 69621 + 11) % 2147483647 * 16807 + (0 + (j : Int))) % 2147483629], _, _, _, rfl, fun b o e => ?_, ?_, ?_, ?_⟩
          · rw [upd_ne (ne_of_none e hp)]; exact s5 b o e
          · rw [upd_same, nts, nts, List.map_append]; rfl
          · rw [upd_ne (Ne.symm npq)]; exact hq5
          · rw [List.length_append, List.length_singleton]; omega
        · rintro σ H5 ⟨rs', l', kk', m', rfl, s5, hp5, hq5, hlen'⟩
          exact ⟨rs', _, _, _, _, rfl, s5, hp5, hq5, by omega⟩
    · rintro σ H' ⟨rs, c, l, kk, m, rfl, s4, hp4, hq4, hlen⟩
      rw [List.length_map] at hlen
      refine ⟨_, rfl, p, _, rfl, .inl (SqL.of hp4), rfl, _, rfl, ite2 (fun hz => ?_) (fun hz => ?_)⟩
      · refine ⟨_, rfl, .inl ⟨rfl, _, SqL.of hp4⟩, p, _, _, rfl, rfl, hp4, (by show (nts rs).length < sizeLine; rw [nts, List.length_map]; exact Nat.lt_of_lt_of_le (show rs.length < 4000 by omega) (by decide)), ?_⟩
        refine ⟨_, rfl, k p (rs ++ [0]) _ hp (fun b o e => ?_) ?_ ?_ ?_⟩
        · rw [upd_ne (ne_of_none e hp)]; exact s4 b o e
        · rw [upd_same, nts, nts, List.map_append]; rfl
        · rw [List.length_append, List.length_singleton]; omega
        · rw [List.length_append, List.length_singleton]; omega
      · refine ⟨_, rfl, k p rs _ hp s4 hp4 ?_ (by omega)⟩
        have hz' : ¬ (decide (V.int ((nts rs).length : Int) = V.int 0)) = true := hz
        rw [nts, List.length_map] at hz'
        cases rs with
        | nil => exact absurd (by decide) hz'
        | cons _ _ => exact Nat.succ_le_succ (Nat.zero_le _)
theorem ok_draw {f : Addr} {fd : FuncData} (F : Fun K "_law_draw" "_law_draw" sDraw f fd) (T : Txt K mg) : FnOk P w K mg base CX0 1 f fd ["row", "at", "limit"] spDraw := by
  refine F.ok scD (fun vs H Q E h => ?_) (fun cdv A outer s H vs Q E hr h => ?_)
  · obtain ⟨p, rs, at_, lim, rfl, _⟩ := h
    rfl
  · obtain ⟨p, rs, at_, lim, rfl, hp, l1, l2, a0, a1, l0, k⟩ := h
    refine ⟨_, pss_cons (ps_if (pt_cmpR op_lt (pv 1) (pe_callB call_len_seq (by rfl) T.len PySem.boot_len (pa_cons (pv 0) pa_nil)) (nomark _))
        (pss_one (ps_ret (pe_op op_mod (pe_callTy call_int1 (by rfl) T.int_ PyProof.Rows.boot_int (by exact (pa_cons (pe_ix ix_list (pv 0) (pv 1) (fun _ _ => rfl)) pa_nil))) (pv 2)))) pss_nil)
      (pss_cons (ps_set (i := 3) scD.nd rfl (Or.inl rfl) (pe_op op_mod (pe_callTy call_int1 (by rfl) T.int_ PyProof.Rows.boot_int (pa_cons (pe_op op_add (pe_op op_add (pe_op op_mul (pe_ix ix_list (pv 0) (pe_op op_mod (pe_callTy call_int1 (by rfl) T.int_ PyProof.Rows.boot_int (pa_cons (pv 1) pa_nil)) (pe_callB call_len_seq (by rfl) T.len PySem.boot_len (pa_cons (pv 0) pa_nil))) (fun _ _ => rfl)) pe_int) (pe_op op_mul (pv 1) pe_int)) pe_int) pa_nil)) pe_int))
      (pss_one (ps_ret (pe_op op_mod (pe_callTy call_int1 (by rfl) T.int_ PyProof.Rows.boot_int (pa_cons (pe_op op_mod (pe_callTy call_int1 (by rfl) T.int_ PyProof.Rows.boot_int (pa_cons (pe_op op_add (pe_op op_mul (pv 3) pe_int) (pv 1)) pa_nil)) pe_int) pa_nil)) (pv 2))))), ?_⟩
    refine ⟨_, rfl, _, rfl, p, _, rfl, .inl (SqL.of hp), _, _, rfl, rfl, _, rfl, ite2 (fun h1 => ?_) (fun h1 => ?_)⟩
    all_goals rw [nts, List.length_map] at h1
    · have h1' : at_ < rs.length := of_decide_eq_true h1
      obtain ⟨x, hx⟩ : ∃ x, rs[at_.toNat]? = some x := ⟨rs[at_.toNat]'(by omega), List.getElem?_eq_getElem _⟩
      refine ⟨_, rfl, _, rfl, p, _, _, _, rfl, rfl, SqL.of hp, (by rw [show at_ = ((at_.toNat : Nat) : Int) by omega]; exact atI_nat (by rw [nts, List.getElem?_map, hx]; rfl)), .inl ⟨x, rfl, _, rfl, _, _, rfl, rfl, l0, k _ (Int.emod_nonneg _ (by omega)) (Int.emod_lt_of_pos _ l0)⟩⟩
    · have hpos : (0 : Int) < (rs.length : Int) := by omega
      have b0 := Int.emod_nonneg at_ (show (rs.length : Int) ≠ 0 by omega)
      have b1 := Int.emod_lt_of_pos at_ hpos
      obtain ⟨x, hx⟩ : ∃ x, rs[(at_ % (rs.length : Int)).toNat]? = some x := ⟨rs[(at_ % (rs.length : Int)).toNat]'(by omega), List.getElem?_eq_getElem _⟩
      refine ⟨_, rfl, _, rfl, .inl ⟨_, rfl, _, rfl, p, _, rfl, .inl (SqL.of hp), _, _, rfl, rfl, (by show (0 : Int) < ((nts rs).length : Int); rw [nts, List.length_map]; exact hpos), ?_⟩⟩
      have eL : ((nts rs).length : Int) = (rs.length : Int) := by rw [nts, List.length_map]
      refine ⟨p, _, _, .int x, rfl, rfl, SqL.of hp, (by show atI (nts rs) (at_ % ((nts rs).length : Int)) = _; rw [eL, show at_ % (rs.length : Int) = (((at_ % (rs.length : Int)).toNat : Nat) : Int) by omega]; exact atI_nat (by rw [nts, List.getElem?_map, hx]; rfl)), ?_⟩
      refine ⟨_, _, rfl, rfl, .inr ⟨by decide, by decide⟩, _, rfl, _, _, rfl, rfl, .inr ⟨by decide, by decide⟩, _, _, rfl, rfl, _, _, rfl, rfl, .inl ⟨_, rfl, _, _, rfl, rfl, (by show (0 : Int) < 2147483399; decide), ?_⟩⟩
      refine ⟨_, rfl, _, _, rfl, rfl, .inr ⟨by decide, by decide⟩, _, rfl, _, _, rfl, rfl, .inl ⟨_, rfl, _, _, rfl, rfl, (by show (0 : Int) < 2147483647; decide), .inl ⟨_, rfl, _, rfl, _, _, rfl, rfl, l0, k _ (Int.emod_nonneg _ (by omega)) (Int.emod_lt_of_pos _ l0)⟩⟩⟩
theorem ok_take {f fD : Addr} {fd fdD : FuncData} (F : Fun K "_law_take" "_law_take" sTake f fd) (T : Txt K mg) (FD : Fun K "_law_draw" "_law_draw" sDraw fD fdD) (gD : mg "_law_draw" = some (.ref fD)) (bD : Binds K fdD ["row", "at", "limit"] []) : FnOk P w K mg base CX0 2 f fd ["row", "spot", "limit"] spTake := by
  have GD : FnOk P w K mg base CX0 1 fD fdD ["row", "at", "limit"] spDraw := ok_draw FD T
  refine F.ok scT (fun vs H Q E h => ?_) (fun cdv A outer s H vs Q E hr h => ?_)
  · obtain ⟨p, q, rs, n, lim, rfl, _⟩ := h
    rfl
  · obtain ⟨p, q, rs, n, lim, rfl, hp, hq, npq, l1, l2, n0, n1, l0, k⟩ := h
    refine ⟨_, pss_cons (ps_asg (pe_op op_add (pe_ix ix_list (pv 1) pe_int (fun _ _ => rfl)) pe_int) (pg_sub (pv 1) pe_int set_list))
      (pss_one (ps_ret (pe_call GD hr rfl gD FD.kp bD .nil pass0 (pa_cons (pv 0) (pa_cons (pe_op op_sub (pe_ix ix_list (pv 1) pe_int (fun _ _ => rfl)) pe_int) (pa_cons (pv 2) pa_nil)))))), ?_⟩
    refine ⟨_, rfl, q, _, _, _, rfl, rfl, SqL.of hq, rfl, _, _, rfl, rfl, _, rfl, q, _, 0, 0, rfl, rfl, hq, rfl, ?_⟩
    refine ⟨_, rfl, _, rfl, q, _, _, _, rfl, rfl, SqL.of upd_same, rfl, _, _, rfl, rfl, _, rfl, ?_⟩
    exact ⟨p, rs, n + 1 - 1, lim, rfl, (by rw [upd_ne npq]; exact hp), l1, l2, by omega, by omega, l0, fun r r0 r1 => k r r0 r1⟩
theorem wideMul {i j : Int} {a b : Nat} (ha : i.natAbs < 2 ^ a) (hb : j.natAbs < 2 ^ b) (h0 : 0 < a) (h1 : 0 < b) (h : a + b ≤ 1000) : CMulW i j := wide_mul ha hb h0 h1 (by omega)
theorem mixStep_b (x : Int) : 0 ≤ mixStep x ∧ mixStep x < 2305843009213693951 := ⟨Int.emod_nonneg _ (by decide), Int.emod_lt_of_pos _ (by decide)⟩
theorem natAbs_mul_lt {i j : Int} {a b : Nat} (ha : i.natAbs < 2 ^ a) (hb : j.natAbs < 2 ^ b) : (i * j).natAbs < 2 ^ (a + b) := by
  rw [Int.natAbs_mul, Nat.pow_add]
  exact Nat.mul_lt_mul'' ha hb
theorem x0_b {a b : Int} (ha : a.natAbs < 2 ^ 300) (hb : b.natAbs < 2 ^ 300) : ((a + 1) * 2654435761 + b * 40503).natAbs < 2 ^ 340 := by
  have h1 : ((a + 1) * 2654435761).natAbs = (a + 1).natAbs * 2654435761 := by rw [Int.natAbs_mul]; rfl
  have h2 : (b * 40503).natAbs = b.natAbs * 40503 := by rw [Int.natAbs_mul]; rfl
  have h3 := Int.natAbs_add_le ((a + 1) * 2654435761) (b * 40503)
  have h4 := Int.natAbs_add_le a 1
  have e1 : (1 : Int).natAbs = 1 := rfl
  have p : (2 : Nat) ^ 340 = 2 ^ 300 * 1099511627776 := by decide +kernel
  have p0 : (0 : Nat) < 2 ^ 300 := by decide +kernel
  rw [p]
  generalize (2 : Nat) ^ 300 = M at *
  omega
theorem step_b {x : Int} (h : 0 ≤ x ∧ x < 2305843009213693951) : x.natAbs < 2 ^ 340 := by
  have p : (2305843009213693951 : Nat) < 2 ^ 340 := by decide +kernel
  omega
theorem ok_mix {f : Addr} {fd : FuncData} (F : Fun K "mix" "mix" sMix f fd) (T : Txt K mg) : FnOk P w K mg base CX0 1 f fd ["a", "b"] spMix := by
  refine F.ok scM (fun vs H Q E h => ?_) (fun cdv A outer s H vs Q E hr h => ?_)
  · obtain ⟨a, b, rfl, _⟩ := h
    rfl
  · obtain ⟨a, b, rfl, ha, hb, k⟩ := h
    obtain ⟨tm, hm⟩ := T.md
    refine ⟨_, pss_cons (ps_set (i := 2) scM.nd rfl (Or.inl rfl) (pe_op op_add (pe_op op_mulW (pe_op op_add (pv 0) pe_int) pe_int) (pe_op op_mulW (pv 1) pe_int)))
      (pss_cons (ps_for PassesOwn.never rfl (pi_range1 rfl T.rng (pa_cons pe_int pa_nil)) (pg_name (i := 3) scM.nd rfl (Or.inl rfl))
        (pss_one (ps_set (i := 2) scM.nd rfl (Or.inl rfl) (pe_op op_mod (pe_op op_add (pe_op op_add (pe_op op_mulW (pv 2) (pv 2)) (pv 2)) pe_int) (pe_glob (v := .int 2305843009213693951) rfl hm ⟨_, rfl⟩)))))
      (pss_one (ps_ret (pv 2)))), ?_⟩
    have h0 : (a + 1).natAbs < 2 ^ 301 := by
      have h4 := Int.natAbs_add_le a 1
      have e1 : (1 : Int).natAbs = 1 := rfl
      have p : (2 : Nat) ^ 301 = 2 ^ 300 * 2 := by decide +kernel
      rw [p]
      generalize (2 : Nat) ^ 300 = M at *
      omega
    refine ⟨_, rfl, _, _, rfl, rfl, _, _, rfl, rfl, wideMul h0 (show (2654435761 : Int).natAbs < 2 ^ 32 by decide) (by decide) (by decide) (by decide), _, rfl, _, _, rfl, rfl, wideMul hb (show (40503 : Int).natAbs < 2 ^ 32 by decide) (by decide) (by decide) (by decide), _, _, rfl, rfl, ?_⟩
    refine ⟨3, rfl, by decide, by decide, for_range (n := 3) (fun i σ H' => ∃ (x : Int) (v : Option V), σ = [some (.int a), some (.int b), some (.int x), v] ∧ H' = H ∧ x = mixIt i ((a + 1) * 2654435761 + b * 40503) ∧ x.natAbs < 2 ^ 340)
      ⟨_, _, rfl, rfl, rfl, x0_b ha hb⟩ ?_ ?_⟩
    · rintro i σ H' hi ⟨x, v, rfl, rfl, ex, hx⟩
      refine ⟨_, rfl, _, rfl, _, _, rfl, rfl, wideMul hx hx (by decide) (by decide) (by decide), _, rfl, _, _, rfl, rfl, _, _, rfl, rfl, _, _, rfl, rfl, (by show (0 : Int) < 2305843009213693951; decide), ?_⟩
      exact ⟨mixStep x, _, rfl, rfl, by rw [ex]; rfl, step_b (mixStep_b x)⟩
    · rintro σ H' ⟨x, v, rfl, rfl, ex, hx⟩
      refine ⟨_, rfl, ?_⟩
      rw [ex]
      exact k
theorem ok_mixL {f : Addr} {fd : FuncData} (F : Fun K "_law_mix" "_law_mix" sMixL f fd) (T : Txt K mg) : FnOk P w K mg base CX0 1 f fd ["a", "b"] spMix := by
  refine F.ok scML (fun vs H Q E h => ?_) (fun cdv A outer s H vs Q E hr h => ?_)
  · obtain ⟨a, b, rfl, _⟩ := h
    rfl
  · obtain ⟨a, b, rfl, ha, hb, k⟩ := h
    refine ⟨_, pss_cons (ps_set (i := 2) scML.nd rfl (Or.inl rfl) (pe_op op_add (pe_op op_mulW (pe_op op_add (pv 0) pe_int) pe_int) (pe_op op_mulW (pv 1) pe_int)))
      (pss_cons (ps_for PassesOwn.never rfl (pi_range1 rfl T.rng (pa_cons pe_int pa_nil)) (pg_name (i := 3) scML.nd rfl (Or.inl rfl))
        (pss_one (ps_set (i := 2) scML.nd rfl (Or.inl rfl) (pe_op op_mod (pe_callTy call_int1 (by rfl) T.int_ PyProof.Rows.boot_int (pa_cons (pe_op op_add (pe_op op_add (pe_op op_mulW (pv 2) (pv 2)) (pv 2)) pe_int) pa_nil)) pe_int))))
      (pss_one (ps_ret (pv 2)))), ?_⟩
    have h0 : (a + 1).natAbs < 2 ^ 301 := by
      have h4 := Int.natAbs_add_le a 1
      have e1 : (1 : Int).natAbs = 1 := rfl
      have p : (2 : Nat) ^ 301 = 2 ^ 300 * 2 := by decide +kernel
      rw [p]
      generalize (2 : Nat) ^ 300 = M at *
      omega
    refine ⟨_, rfl, _, _, rfl, rfl, _, _, rfl, rfl, wideMul h0 (show (2654435761 : Int).natAbs < 2 ^ 32 by decide) (by decide) (by decide) (by decide), _, rfl, _, _, rfl, rfl, wideMul hb (show (40503 : Int).natAbs < 2 ^ 32 by decide) (by decide) (by decide) (by decide), _, _, rfl, rfl, ?_⟩
    refine ⟨3, rfl, by decide, by decide, for_range (n := 3) (fun i σ H' => ∃ (x : Int) (v : Option V), σ = [some (.int a), some (.int b), some (.int x), v] ∧ H' = H ∧ x = mixIt i ((a + 1) * 2654435761 + b * 40503) ∧ x.natAbs < 2 ^ 340)
      ⟨_, _, rfl, rfl, rfl, x0_b ha hb⟩ ?_ ?_⟩
    · rintro i σ H' hi ⟨x, v, rfl, rfl, ex, hx⟩
      refine ⟨_, rfl, _, rfl, _, _, rfl, rfl, wideMul hx hx (by decide) (by decide) (by decide), _, rfl, _, _, rfl, rfl, _, _, rfl, rfl, .inl ⟨_, rfl, _, _, rfl, rfl, (by show (0 : Int) < 2305843009213693951; decide), ?_⟩⟩
      exact ⟨mixStep x, _, rfl, rfl, by rw [ex]; rfl, step_b (mixStep_b x)⟩
    · rintro σ H' ⟨x, v, rfl, rfl, ex, hx⟩
      refine ⟨_, rfl, ?_⟩
      rw [ex]
      exact k

theorem scL : FnScope ["script", "row", "spot", "a", "b"] ["script"] (defScope sLaw) := ⟨rfl, rfl, rfl, by decide +kernel, rfl, by decide +kernel, by decide +kernel⟩
structure Fs (K : PySem.W.Frag) (mg : Str → Option Value) (fN fD fT fM fL : Addr) (fdN fdD fdT fdM fdL : FuncData) : Prop where
  FN : Fun K "_law_numbers" "_law_numbers" sNum fN fdN
  FD : Fun K "_law_draw" "_law_draw" sDraw fD fdD
  FT : Fun K "_law_take" "_law_take" sTake fT fdT
  FM : Fun K "mix" "mix" sMix fM fdM
  FL : Fun K "_law_mix" "_law_mix" sMixL fL fdL
  gN : mg "_law_numbers" = some (.ref fN)
  gD : mg "_law_draw" = some (.ref fD)
  gT : mg "_law_take" = some (.ref fT)
  gM : mg "mix" = some (.ref fM)
  gL : mg "_law_mix" = some (.ref fL)
  bN : Binds K fdN ["script"] []
  bD : Binds K fdD ["row", "at", "limit"] []
  bT : Binds K fdT ["row", "spot", "limit"] []
  bM : Binds K fdM ["a", "b"] []
  bL : Binds K fdL ["a", "b"] []
theorem ok_law {f fN fD fT fM fL : Addr} {fd fdN fdD fdT fdM fdL : FuncData} (F : Fun K "law" "law" sLaw f fd) (T : Txt K mg) (G : Fs K mg fN fD fT fM fL fdN fdD fdT fdM fdL) : FnOk P w K mg base CX0 3 f fd ["script"] (spLaw K) := by
  have GN : FnOk P w K mg base CX0 1 fN fdN ["script"] (spNum K) := ok_num G.FN T
  have GT : FnOk P w K mg base CX0 2 fT fdT ["row", "spot", "limit"] spTake := ok_take G.FT T G.FD G.gD G.bD
  have GM : FnOk P w K mg base CX0 1 fM fdM ["a", "b"] spMix := ok_mix G.FM T
  have GL : FnOk P w K mg base CX0 1 fL fdL ["a", "b"] spMix := ok_mixL G.FL T
  refine F.ok scL (fun vs H Q E h => ?_) (fun cdv A outer s H vs Q E hr h => ?_)
  · obtain ⟨a, ns, rfl, _⟩ := h
    rfl
  · obtain ⟨a, ns, rfl, hS, hl, k⟩ := h
    have hr1 : Room 1 _ := hr.mono (by decide)
    refine ⟨_, pss_cons (ps_set (i := 1) scL.nd rfl (Or.inl rfl) (pe_call GN hr1 rfl G.gN G.FN.kp G.bN .nil pass0 (pa_cons (pv 0) pa_nil)))
      (pss_cons (ps_set (i := 2) scL.nd rfl (Or.inl rfl) (pe_lst (pa_cons pe_int pa_nil)))
      (pss_cons (ps_set (i := 3) scL.nd rfl (Or.inl rfl) (pe_call GT hr rfl G.gT G.FT.kp G.bT .nil pass0 (pa_cons (pv 1) (pa_cons (pv 2) (pa_cons pe_int pa_nil)))))
      (pss_cons (ps_set (i := 4) scL.nd rfl (Or.inl rfl) (pe_call GT hr rfl G.gT G.FT.kp G.bT .nil pass0 (pa_cons (pv 1) (pa_cons (pv 2) (pa_cons pe_int pa_nil)))))
      (pss_one (ps_ret (pe_cmpR op_eq (pe_call GM hr1 rfl G.gM G.FM.kp G.bM .nil pass0 (pa_cons (pv 3) (pa_cons (pv 4) pa_nil))) (pe_call GL hr1 rfl G.gL G.FL.kp G.bL .nil pass0 (pa_cons (pv 3) (pa_cons (pv 4) pa_nil))) (nomark _))))))), ?_⟩
    refine ⟨_, rfl, a, ns, rfl, hS, hl, fun p rs H1 hp s1 hp1 l1 l2 => ?_⟩
    refine ⟨(by show 1 ≤ sizeLine; decide), fun q hq => ?_⟩
    have npq : p ≠ q := fun e => by rw [← e, hp1] at hq; cases hq
    refine ⟨_, rfl, _, rfl, p, q, rs, 0, 100000, rfl, (by rw [upd_ne npq]; exact hp1), upd_same, npq, l1, l2, by decide, by decide, by decide, fun x x0 x1 => ?_⟩
    refine ⟨_, rfl, _, rfl, p, q, rs, 0 + 1, 100000, rfl, (by rw [upd_ne npq, upd_ne npq]; exact hp1), upd_same, npq, l1, l2, by decide, by decide, by decide, fun y y0 y1 => ?_⟩
    have big : ∀ z : Int, 0 ≤ z → z < 100000 → z.natAbs < 2 ^ 300 := fun z z0 z1 => Nat.lt_of_lt_of_le (show z.natAbs < 100000 by omega) (by decide +kernel)
    refine ⟨_, rfl, _, rfl, x, y, rfl, big x x0 x1, big y y0 y1, _, rfl, _, rfl, x, y, rfl, big x x0 x1, big y y0 y1, rfl, ?_⟩
    have e : decide (V.int (mixZ x y) = V.int (mixZ x y)) = true := decide_eq_true rfl
    show Q (V.bl (decide (V.int (mixZ x y) = V.int (mixZ x y)))) _
    rw [e]
    exact k _
end
/-! ### what the top has written, the head -/
theorem all_mk {l : PySem.W.OpenLaw} {w : World} {K : PySem.W.Frag} {h : Heap} {mg : Str → Option Value} {fa f1 f2 f3 f4 f5 f6 : Addr} (X : K.In h) (G : h.Ns mainGlobals mg) (hfa : mg "law" = some (.ref fa))
    {od1 an1 od2 an2 od3 an3 od4 an4 od5 an5 od6 an6 : Option Addr} {sl1 sl2 sl3 sl4 sl5 sl6 : Array (Option Value)} {oc1 kV1 dc1 pm1 cd1 ct1 oc2 kV2 dc2 pm2 cd2 ct2 oc3 kV3 dc3 pm3 cd3 ct3 oc4 kV4 dc4 pm4 cd4 ct4 oc5 kV5 dc5 pm5 cd5 ct5 oc6 kV6 dc6 pm6 cd6 ct6 : Value} {tkMODULUS : Tok}
    (a1 : PySem.W.nsIn K mainGlobals "_law_numbers" = some (some (.ref f1))) (l1 : K.lookup f1 = some ⟨oc1, od1, .func (PySem.W.fnOf "_law_numbers" "_law_numbers" (defArgs sNum) (defBody sNum) (defScope sNum) .none kV1 dc1 pm1 an1 cd1 ct1), sl1⟩) (c1 : PySem.W.codeIn K cd1 "_law_numbers" = true) (k1 : PySem.W.keepIn K (.ref f1) = true)
    (a2 : PySem.W.nsIn K mainGlobals "_law_draw" = some (some (.ref f2))) (l2 : K.lookup f2 = some ⟨oc2, od2, .func (PySem.W.fnOf "_law_draw" "_law_draw" (defArgs sDraw) (defBody sDraw) (defScope sDraw) .none kV2 dc2 pm2 an2 cd2 ct2), sl2⟩) (c2 : PySem.W.codeIn K cd2 "_law_draw" = true) (k2 : PySem.W.keepIn K (.ref f2) = true)
    (a3 : PySem.W.nsIn K mainGlobals "_law_take" = some (some (.ref f3))) (l3 : K.lookup f3 = some ⟨oc3, od3, .func (PySem.W.fnOf "_law_take" "_law_take" (defArgs sTake) (defBody sTake) (defScope sTake) .none kV3 dc3 pm3 an3 cd3 ct3), sl3⟩) (c3 : PySem.W.codeIn K cd3 "_law_take" = true) (k3 : PySem.W.keepIn K (.ref f3) = true)
    (a4 : PySem.W.nsIn K mainGlobals "mix" = some (some (.ref f4))) (l4 : K.lookup f4 = some ⟨oc4, od4, .func (PySem.W.fnOf "mix" "mix" (defArgs sMix) (defBody sMix) (defScope sMix) .none kV4 dc4 pm4 an4 cd4 ct4), sl4⟩) (c4 : PySem.W.codeIn K cd4 "mix" = true) (k4 : PySem.W.keepIn K (.ref f4) = true)
    (a5 : PySem.W.nsIn K mainGlobals "_law_mix" = some (some (.ref f5))) (l5 : K.lookup f5 = some ⟨oc5, od5, .func (PySem.W.fnOf "_law_mix" "_law_mix" (defArgs sMixL) (defBody sMixL) (defScope sMixL) .none kV5 dc5 pm5 an5 cd5 ct5), sl5⟩) (c5 : PySem.W.codeIn K cd5 "_law_mix" = true) (k5 : PySem.W.keepIn K (.ref f5) = true)
    (a6 : PySem.W.nsIn K mainGlobals "law" = some (some (.ref f6))) (l6 : K.lookup f6 = some ⟨oc6, od6, .func (PySem.W.fnOf "law" "law" (defArgs sLaw) (defBody sLaw) (defScope sLaw) .none kV6 dc6 pm6 an6 cd6 ct6), sl6⟩) (c6 : PySem.W.codeIn K cd6 "law" = true) (k6 : PySem.W.keepIn K (.ref f6) = true)
    (z_len : PySem.W.nsIn K mainGlobals "len" = some none)
    (z_range : PySem.W.nsIn K mainGlobals "range" = some none)
    (z_int : PySem.W.nsIn K mainGlobals "int" = some none)
    (y_MODULUS : PySem.W.nsIn K mainGlobals "MODULUS" = some (some (.int 2305843009213693951 tkMODULUS))) :
    ∃ fd : FuncData, (∀ (s : Shared) (v : Value), BindsTo s fd ⟨[v], []⟩ [("script", v)]) ∧ ∀ base : Heap, K.In base → base.Ns mainGlobals mg → FnOk l.prog w K mg base CX0 3 fa fd ["script"] (spLaw K) := by
  have e := hfa.symm.trans (PySem.W.mg_of X G a6)
  cases e
  have F1 := fun_mk (st := sNum) l1 c1 k1
  have b1 := F1.binds (ps := ["script"]) fun _ _ _ _ _ _ us hl => match us, hl with | [_], _ => rfl
  have F2 := fun_mk (st := sDraw) l2 c2 k2
  have b2 := F2.binds (ps := ["row", "at", "limit"]) fun _ _ _ _ _ _ us hl => match us, hl with | [_, _, _], _ => rfl
  have F3 := fun_mk (st := sTake) l3 c3 k3
  have b3 := F3.binds (ps := ["row", "spot", "limit"]) fun _ _ _ _ _ _ us hl => match us, hl with | [_, _, _], _ => rfl
  have F4 := fun_mk (st := sMix) l4 c4 k4
  have b4 := F4.binds (ps := ["a", "b"]) fun _ _ _ _ _ _ us hl => match us, hl with | [_, _], _ => rfl
  have F5 := fun_mk (st := sMixL) l5 c5 k5
  have b5 := F5.binds (ps := ["a", "b"]) fun _ _ _ _ _ _ us hl => match us, hl with | [_, _], _ => rfl
  have F6 := fun_mk (st := sLaw) l6 c6 k6
  have T : Txt K mg := ⟨PySem.W.mg_none_of X G z_len, PySem.W.mg_none_of X G z_range, PySem.W.mg_none_of X G z_int, ⟨_, PySem.W.mg_of X G y_MODULUS⟩⟩
  exact ⟨PySem.W.fnOf "law" "law" (defArgs sLaw) (defBody sLaw) (defScope sLaw) .none kV6 dc6 pm6 an6 cd6 ct6, fun s v => .of_eq rfl, fun base _ _ => ok_law F6 T ⟨F1, F2, F3, F4, F5, PySem.W.mg_of X G a1, PySem.W.mg_of X G a2, PySem.W.mg_of X G a3, PySem.W.mg_of X G a4, PySem.W.mg_of X G a5, b1, b2, b3, b4, b5⟩⟩
theorem walk {l : PySem.W.OpenLaw} {q : Program} {loose : List Str} {XP : (Str → Option Value) → Heap → Prop} {YP : World → Heap → Prop} {d : DefRec} {K : Params → PySem.W.Frag} (hn : l.most = some 63) (hdf : d.params.defaults = [])
    (hY : ∀ (w : World) (h : Heap), YP w h → (K w.params).In h)
    (F : ∀ (w : World) (mg : Str → Option Value) (fa : Addr) (h : Heap), (K w.params).In h → h.Ns mainGlobals mg → mg d.name = some (.ref fa) →
      ∃ fd : FuncData, (∀ (s : Shared) (u : Value), BindsTo s fd ⟨[u], []⟩ [("script", u)]) ∧ ∀ base : Heap, (K w.params).In base → base.Ns mainGlobals mg → FnOk l.prog w (K w.params) mg base CX0 3 fa fd ["script"] (spLaw (K w.params))) :
    PySem.W.WalkO q loose XP YP l.row.toRowW d [] (fun f vs => PySem.call f vs) :=
  L2.walk_of (n := 63) (k := 3) (x := "script") (CX := fun _ => CX0) (sp := fun w => spLaw (K w.params)) hn (by decide) hdf ⟨rfl, by decide, by decide⟩ hY F (fun _ _ a ns hl _ hS => ⟨a, ns, rfl, hS, hl, fun _ => rfl⟩) fun _ _ _ _ _ z => z
end Lw
open PySem PySem.W PyProof.Rows
set_option maxRecDepth 100000 in
set_option maxHeartbeats 0 in
theorem PySem.Challenge.cw_recallrow_k06_mix_holds : PySem.Challenge.rw_recallrow_k06_mix.Holds := by
  w_on; o_law; k_head; (case hw => w_witness2)
  k_fill
  refine Lw.walk (l := PySem.Challenge.rw_recallrow_k06_mix) rfl rfl (fun w h Y => PySem.W.kIn_of Y) ?F
  case F =>
    intro w mg fa h KX G hmg
    refine' Lw.all_mk KX G hmg ?a1 ?l1 ?c1 ?k1 ?a2 ?l2 ?c2 ?k2 ?a3 ?l3 ?c3 ?k3 ?a4 ?l4 ?c4 ?k4 ?a5 ?l5 ?c5 ?k5 ?a6 ?l6 ?c6 ?k6 ?z_len ?z_range ?z_int ?y_MODULUS
    (case a1 => k_is)
    (case l1 => k_is)
    (case c1 => k_is)
    (case k1 => k_is)
    (case a2 => k_is)
    (case l2 => k_is)
    (case c2 => k_is)
    (case k2 => k_is)
    (case a3 => k_is)
    (case l3 => k_is)
    (case c3 => k_is)
    (case k3 => k_is)
    (case a4 => k_is)
    (case l4 => k_is)
    (case c4 => k_is)
    (case k4 => k_is)
    (case a5 => k_is)
    (case l5 => k_is)
    (case c5 => k_is)
    (case k5 => k_is)
    (case a6 => k_is)
    (case l6 => k_is)
    (case c6 => k_is)
    (case k6 => k_is)
    (case z_len => k_is)
    (case z_range => k_is)
    (case z_int => k_is)
    (case y_MODULUS => k_is)
