import PyProof.Rows.All
import Wide.All
import OpenK.AllK
import Wide.FinOn
import KE.KExcSuper
import KE.KExcIs
import KE.RegKSuper
import HandS.ForMost
import HandS.Wide
import HandS.ExcInit
import HandS.ExcField
import HandS.FStr
import PySem.Challenge.RW_recallrow_k00_errors
set_option Elab.async false
set_option linter.all false
set_option maxRecDepth 100000
set_option maxHeartbeats 4000000
namespace L2
open PySem PySem.Spec PyProof.Rows

structure FnScopeS (N P : List Str) (sc : Scope) : Prop where
  kind : sc.kind = .function
  co : sc.isCoroutine = false
  gen : sc.isGenerator = false
  nd : N.Nodup
  pre : N.take P.length = P
  par : ∀ x ∈ P, sc.names.lookup x = some .local
  nocell : ∀ y ∈ sc.names, y.2 ≠ .cell
  free1 : ∀ y ∈ sc.names, y.2 = .free → y.1 = ("__class__" : Str)
  cls : sc.names.lookup ("__class__" : Str) = some .free
  sup : sc.names.lookup ("super" : Str) = some .globalImplicit

theorem lookup_nd {l : List (Str × Value)} {y : Str} {u : Value} (nd : (l.map (·.1)).Nodup) (h : (y, u) ∈ l) : l.lookup y = some u := by
  induction l with
  | nil => cases h
  | cons p l ih =>
    obtain ⟨a, b⟩ := p
    rw [List.map_cons, List.nodup_cons] at nd
    rcases List.mem_cons.mp h with e | e
    · cases e
      simp [List.lookup]
    · have ne : (y == a) = false := by
        have : y ≠ a := fun z => nd.1 (z ▸ List.mem_map_of_mem (f := (·.1)) e)
        simpa using this
      simp only [List.lookup, ne]
      exact ih nd.2 e
theorem zip_sub : ∀ (P : List Str) (us : List Value), ((P.zip us).map (·.1)).Sublist P
  | [], _ => by simp
  | _ :: _, [] => by simp
  | p :: P, u :: us => by
    show (p :: ((P.zip us).map (·.1))).Sublist (p :: P)
    exact (zip_sub P us).cons₂ p
theorem zip_rev {P : List Str} {us : List Value} {i : Nat} {y : Str} {u : Value} (nd : P.Nodup) (h1 : P[i]? = some y) (h2 : us[i]? = some u) : (P.zip us).reverse.lookup y = some u := by
  refine lookup_nd ?_ ?_
  · have z : ((P.zip us).map (·.1)).Nodup := nd.sublist (zip_sub P us)
    rw [List.map_reverse]
    exact List.pairwise_reverse.mpr (z.imp fun h => Ne.symm h)
  · rw [List.mem_reverse]
    refine List.mem_of_getElem? (i := i) ?_
    rw [List.getElem?_zip_eq_some]
    exact ⟨h1, h2⟩

def cxOfS (CX : CXT) (P : Program) (w : World) (K : PySem.W.Frag) (mg : Str → Option Value) (base : Heap) (N : List Str) (qual : Str) (scope : Scope) (f : Addr) (cd : Value) (cc : Addr) (A : Around) (outer : List Env) (s : Shared) (H : Hp) (E : XK) : Cx where
  prog := P
  w := w
  K := K
  mg := mg
  base := base
  A := A.deeper (PySem.W.ksEnv qual scope s.heap.objs.size f cd cc)
  N := N
  s_0 := s
  H_0 := H
  env := PySem.W.ksEnv qual scope s.heap.objs.size f cd cc
  outer := outer
  stack := PySem.W.ksEnv qual scope s.heap.objs.size f cd cc :: outer
  ex := []
  calm := true
  fn := fun x => x != ("__class__" : Str)
  pn := []
  xe := fun e s' => wpAny (model P w) (A.deeper (PySem.W.ksEnv qual scope s.heap.objs.size f cd cc)) (leaving (PySem.W.ksEnv qual scope s.heap.objs.size f cd cc) e) (fun _ s'' => CX outer H s E e s'') (fun e' s'' => CX outer H s E e' s'') s'

theorem inv_startS {CX : CXT} {P : Program} {w : World} {K : PySem.W.Frag} {mg : Str → Option Value} {base : Heap} {N ps : List Str} {qual : Str} {scope : Scope} {f cc D : Addr} {cd : Value} {A : Around} {outer : List Env} {s : Shared} {h₁ : Heap} {tk : Nat} {H : Hp} {E : XK} {us : List Value} {vs : List V} {cl : Value} {cld : Option Addr} {csl : Array (Option Value)}
    (S : FnScopeS N ps scope) (hd : A.handled = none) (e0 : Env0 P w K mg base A outer s H) (hl : vs.length = ps.length) (r : Vals vs us) (hcell : K.lookup cc = some ⟨cl, cld, .cell (some (.ref D)), csl⟩)
    (hns : h₁.Ns s.heap.objs.size (fun x => (ps.zip us).reverse.lookup x)) (hk : ∀ b o, s.heap.get? b = some o → h₁.get? b = some o) :
    Inv (cxOfS CX P w K mg base N qual scope f cd cc A outer s H E) [] (start N vs) H { s with heap := h₁, toks := tk } := by
  have hpl : ps.length ≤ N.length := by have := congrArg List.length S.pre; rw [List.length_take] at this; omega
  have noA : ∀ b : Addr, b ∉ (cxOfS CX P w K mg base N qual scope f cd cc A outer s H E).ex := fun b z => absurd (show b ∈ ([] : List Addr) from z) (by simp)
  have hcb : base.get? cc = some ⟨cl, cld, .cell (some (.ref D)), csl⟩ := e0.mod.kin _ _ hcell
  have one : ∀ {x : Str} {c : Addr}, (cxOfS CX P w K mg base N qual scope f cd cc A outer s H E).env.cells.lookup x = some c → x = ("__class__" : Str) ∧ c = cc := fun {x c} h => by
    have h' : ([(("__class__" : Str), cc)] : List (Str × Addr)).lookup x = some c := h
    by_cases e : x = ("__class__" : Str)
    · subst e
      simp [List.lookup] at h'
      exact ⟨rfl, h'.symm⟩
    · have e' : (x == ("__class__" : Str)) = false := by simpa using e
      simp [List.lookup, e'] at h'
  refine ⟨⟨e0.mod, S.kind, rfl, rfl, Nat.le_refl _, fun y z c h1 h2 => ?_, fun y hy => ?_, fun y c h1 h => ?_, fun _ => hd, Around.frames_deeper e0.frames, .inr ⟨rfl, rfl⟩, fun b z => absurd z (noA b), e0.bs, e0.bsz, fun b _ _ => noA b, fun b z => absurd z (noA b), e0.funs, e0.frf⟩,
    rfl, e0.bare, Un.kept hk, ⟨_, hns, fun i y v h1 h2 h3 => ?_⟩, fun y c h => ?_, e0.hok.fresh (Nat.le_refl _), fun y c h => ?_, fun p hp => absurd (show p ∈ ([] : List (Addr × Obj)) from hp) (by simp), e0.hok.kept hk, ?_⟩
  · exact (one h1).1.trans (one h2).1.symm
  · have hy : scope.names.lookup y = some .cell ∨ scope.names.lookup y = some .free := hy
    rcases hy with hy | hy
    · exact absurd rfl (S.nocell _ (PySem.mem_of_lookup hy))
    · have e := S.free1 _ (PySem.mem_of_lookup hy) rfl
      have e' : y = ("__class__" : Str) := e
      subst e'
      exact ⟨cc, by show ([(("__class__" : Str), cc)] : List (Str × Addr)).lookup _ = some cc; simp [List.lookup]⟩
  · obtain ⟨e, _⟩ := one h
    subst e
    exact absurd h1 (by show ¬ ((("__class__" : Str) != ("__class__" : Str)) = true); simp)
  · have hi : i < vs.length := by
      unfold start at h2
      by_cases hi : i < vs.length
      · exact hi
      · rw [List.getElem?_append_right (by simpa using hi)] at h2
        rw [List.getElem?_replicate] at h2
        split at h2 <;> cases h2
    have ha : vs[i]? = some v := by
      unfold start at h2
      rw [List.getElem?_append_left (by simpa using hi), List.getElem?_map] at h2
      cases e : vs[i]? with
      | none => rw [e] at h2; cases h2
      | some a => rw [e] at h2; cases h2; rfl
    obtain ⟨u, hu, rv⟩ := r.get ha
    have hp : ps[i]? = some y := by
      rw [← S.pre, List.getElem?_take_of_lt (by omega)]; exact h1
    have ndP : ps.Nodup := by rw [← S.pre]; exact S.nd.sublist (List.take_sublist _ _)
    exact ⟨u, rv, .inl ⟨S.par y (List.mem_of_getElem? hp), zip_rev ndP hp hu⟩⟩
  · obtain ⟨_, e⟩ := one h
    subst e
    exact ⟨_, _, hk _ _ (e0.bs _ _ hcb).1, rfl⟩
  · obtain ⟨_, e⟩ := one h
    subst e
    exact (e0.bs _ _ hcb).2
  · unfold start
    show _ = N.length
    rw [List.length_append, List.length_map, List.length_replicate]
    omega
section
open PySem.W
variable {prog : Program} {w : World} {A : Around} {E : Value → Shared → Prop} {h : Heap} {g : Array GenState} {d : Drawn} {t : Nat} {os : OsState}
variable {nm q : Str} {C N : Addr} {bs bm bmB : List Value} {hdct : Bool} {sn : List Str} {sub : List Value} {ab : Bool} {col : Option Bool} {dd : Option Addr} {k0 k1 k2 k3 k5 : Option Value} {B i newId : String}
/-- super().__init__ called: the args are laid anew -/
theorem call_bwG (FB : ExcBaseFacts B newId i bmB) {u e t0 : Addr} {rest : List Value} {Q : Value → Shared → Prop}
    (hC : h.get? C = some (excClassObj nm q C N bs bm hdct sn sub ab col dd k0 k1 k2 k3 k5 newId)) (he : h.get? e = some (excObj C t0 none .none)) (hu : h.get? u = some (kxs_mw i e)) (hrest : rest.length ≤ sizeLine)
    (hq : ∀ h' t1, (∀ b o, b ≠ e → h.get? b = some o → h'.get? b = some o) → h'.get? e = some (excObj C t1 none .none) → Q .none ⟨h', g, d, t, os⟩) :
    wpAny (model prog w) A (call (.ref u) rest) Q E ⟨h, g, d, t, os⟩ := by
  refine wpAny_call (codeAny_of_tree ?_)
  show wpAny _ A.in1 (callAny (.ref u) ⟨rest, []⟩) _ _ _
  simp only [callAny]
  refine wpAny_bind (wpAny_load hu ?_)
  simp only [kxs_mw, show (Value.type "method-wrapper" == Value.type "method" || Value.type "method-wrapper" == Value.type "builtin_function_or_method" || Value.type "method-wrapper" == Value.type "method-wrapper") = true by decide, if_true]
  refine KFB.if_so (by decide) ?_
  refine wpAny_bind (check_bound_init FB.toExcCallFacts hC he rfl ?_)
  refine wpAny_bind (wpAny_pure (wpAny_pure ?_))
  refine ⟨plainId_quiet FB.init.plain _, codeAny_builtin FB.initEntry ?_⟩
  exact exc_init_tree (cls := .ref C) (t0 := t0) (dv := none) (c2 := .none) (c3 := .none) (b4 := .bool false) he hrest fun h' k e' _ => hq h' _ k e'
end

/-- THE RULE: an own exception's __init__ whose first statement is super().__init__(e, ..) -/
theorem fn_of_super {CX : CXT} {P : Program} {w : World} {K : PySem.W.Frag} {mg : Str → Option Value} {base : Heap} {k : Nat} {f cc D cda : Addr} {name qual : Str} {params : Arguments} {rest : List Stmt} {scope : Scope} {dV kV doc pm ct oc : Value} {an od : Option Addr}
    {osl : Array (Option Value)} {N ps : List Str} {sp : Sp} {e : Expr} {es : List Expr} {p0 p1 p2 p3 p4 : Pos} {ar : Arg} {cl ccl : Value} {cld cdd : Option Addr} {csl ccs : Array (Option Value)} {vsC : Array Value} {file : Str} {tf : Tok} {oD : Obj} {cdD : ClassData}
    (lk : K.lookup f = some ⟨oc, od, .func (PySem.W.ksFn name qual params (.Expr (.Call (.Attribute (.Call (.Name "super" p0) [] [] p1) "__init__" p2) (e :: es) [] p3) p4 :: rest) scope dV kV doc pm an (.ref cda) ct cc), osl⟩)
    (hcd : PySem.W.codeIn K (.ref cda) qual = true) (S : FnScopeS N ps scope)
    (hcell : K.lookup cc = some ⟨cl, cld, .cell (some (.ref D)), csl⟩) (hcode : K.lookup cda = some ⟨ccl, cdd, .fields vsC, ccs⟩) (hvs : vsC[2]? = some (.str file tf)) (hfile : ((P.main.file : Str) == file) = true)
    (hp : (params.posonlyargs ++ params.args).head? = some ar) (h0 : ps[0]? = some ar.arg)
    (hD : K.lookup D = some oD) (hDd : oD.data = .cls cdD) (htop : (P.main.scope.names.lookup ("super" : Str)).isSome = false) (hms : mg "super" = none)
    (hno : PySem.W.nsIn K cStatics "thirdparty.any" = some none)
    (len : ∀ vs H Q E, sp vs H Q E → vs.length = ps.length)
    (hbody : ∀ (A : Around) (outer : List Env) (s : Shared) (H : Hp) (vs : List V) (Q : VK) (E : XK), Room k (A.deeper (PySem.W.ksEnv qual scope s.heap.objs.size f (.ref cda) cc)) → sp vs H Q E →
      ∃ (a C : Addr) (ta : TA) (t : TS), vs[0]? = some (.ref a) ∧ OexC K C ∧ PySem.W.mroIn K C (.ref D) = some true ∧ PySem.W.ks_superIn K C D "__init__" = some (some (.builtin "ValueError.__init__")) ∧ PySem.W.subIn K (.ref C) (.type "ValueError") = some true ∧
        H a = some (exo a C none) ∧ PA (cxOfS CX P w K mg base N qual scope f (.ref cda) cc A outer s H E) (e :: es) ta ∧ PSs (cxOfS CX P w K mg base N qual scope f (.ref cda) cc A outer s H E) rest t ∧
        ta (start N vs) H fun ws H1 => ws.length ≤ 1000 ∧ H1 a = some (exo a C none) ∧ t { nx := fun _ H' => Q .non H', rt := Q } (start N vs) H1)
    (he : ∀ env, starEach (e :: es) env = (false, eval e env) :: starEach es env := by intro _; rfl) (hpl : ∀ env, (backTo p3 (starEach es env)).any (·.1) = false := by intro _; rfl)
    (hcall : ∀ env, ∃ pl : Sem Bool, eval (.Call (.Attribute (.Call (.Name "super" p0) [] [] p1) "__init__" p2) (e :: es) [] p3) env = (do
      let ov ← attributeBase (.Call (.Name "super" p0) [] [] p1) "__init__" env (eval (.Call (.Name "super" p0) [] [] p1) env)
      standAt p2.atName
      let (f, first) ← holding [ov] (getMethod ov "__init__" pl)
      callWith p3 f first (backTo p3 (starEach (e :: es) env)) []) := by intro _; exact ⟨_, rfl⟩)
    (hsw : ∀ env, swapsWith (.Call (.Attribute (.Call (.Name "super" p0) [] [] p1) "__init__" p2) (e :: es) [] p3) none p4.line env = pure false := by intro _; rfl) :
    FnOk P w K mg base CX (k + 1) f (PySem.W.ksFn name qual params (.Expr (.Call (.Attribute (.Call (.Name "super" p0) [] [] p1) "__init__" p2) (e :: es) [] p3) p4 :: rest) scope dV kV doc pm an (.ref cda) ct cc) ps sp := by
  refine ⟨len, fun A outer s H args us vs Q E hr e0 hb r hsp => ?_⟩
  have hl := len _ _ _ _ hsp
  have KX : K.In s.heap := e0.mod.kin.keeps fun b o e => (e0.bs b o e).1
  have lim : s.heap.NoLimit := e0.mod.nolimit.keeps fun b o e => (e0.bs b o e).1
  refine ks_codeAny_call_defAt (fd := PySem.W.ksFn name qual params (.Expr (.Call (.Attribute (.Call (.Name "super" p0) [] [] p1) "__init__" p2) (e :: es) [] p3) p4 :: rest) scope dV kV doc pm an (.ref cda) ct cc) hr.depth (KX _ _ lk) rfl lim (PySem.W.codeRec_of KX hcd) rfl hb S.nocell (fun ⟨n, v⟩ hy => S.par n (List.of_mem_zip hy).1) (fun h₁ hns hk₁ => ?_) S.co S.gen S.kind
  obtain ⟨a, C, ta, t, hv0, T, hmro, hsi, hsubV, ha, hPA, hPS, hq⟩ := hbody A outer s H vs Q E (hr.deeper _) hsp
  have I : Inv (cxOfS CX P w K mg base N qual scope f (.ref cda) cc A outer s H E) [] (start N vs) H { s with heap := h₁, toks := s.toks + (ps.zip us).length } := inv_startS S hr.hd e0 hl r hcell hns hk₁
  have ha0 : (start N vs)[0]? = some (some (.ref a)) := by
    unfold start
    have hz : 0 < vs.length := by
      cases vs with
      | nil => cases hv0
      | cons _ _ => exact Nat.succ_pos _
    rw [List.getElem?_append_left (by simpa using hz), List.getElem?_map, hv0]
    rfl
  have hN0 : N[0]? = some ar.arg := by
    have e := h0
    rw [← S.pre] at e
    have hz : 0 < ps.length := by
      cases ps with
      | nil => cases h0
      | cons _ _ => exact Nat.succ_pos _
    rw [List.getElem?_take_of_lt hz] at e
    exact e
  have hloc0 : scope.names.lookup ar.arg = some .local := S.par _ (List.mem_of_getElem? h0)
  obtain ⟨nm, q, NN, bs, bm, sn, sub, ab, col, dd, k0, k1, k2, k3, k5, hC, hbm⟩ := T.cls
  have hcl : PySem.W.clsIn K C = some { name := nm, bases := bs, mro := .ref C :: bm, ns := NN, qualname := q, hasDict := true, slotNames := sn, subclasses := sub, abstract := ab, collection := col, hasDel := false } := by unfold PySem.W.clsIn; rw [show K.lookup C = _ from hC] <;> rfl
  have neC : ∀ {h : Heap}, K.In h → HOk P w H h → a ≠ C := fun {h} kx ok z => by
    obtain ⟨t1, e1⟩ := exo_at ok ha
    have e2 := kx _ _ hC
    rw [z, e2] at e1
    cases e1
  refine PySem.ks_wpAt_execs_cons (PySem.ks_wpAt_Expr_any ?_ I.quiet (hsw _))
  obtain ⟨pl, hce⟩ := hcall (PySem.W.ksEnv qual scope s.heap.objs.size f (.ref cda) cc)
  refine PySem.ks_wpAt_MethodCall (pl := pl) ?_ hce
  have KI : K.In h₁ := I.kIn
  refine PySem.ks_wpAt_super_base (env := PySem.W.ksEnv qual scope s.heap.objs.size f (.ref cda) cc) S.sup S.cls (by decide) rfl (KI _ _ lk) rfl hp rfl (KI _ _ hcode) rfl hvs hfile htop ?_
  obtain ⟨mb, hb1, hb2⟩ := I.mod.blt
  refine PySem.W.ks_loadName_global S.kind S.sup (Calls.loadGlobal_builtin (env := PySem.W.ksEnv qual scope s.heap.objs.size f (.ref cda) cc) (I.mod.glob.keeps I.bk) hms (hb1.keeps I.bk) ((hb2 _ (by decide)).trans (show bootBuiltins "super" = some (.type "super") by first | rfl | kernel_rfl | exact PyProof.Rows.Boot.super)) ⟨rfl, ?_⟩)
  have hcs : h₁.IsCell cc (some (.ref D)) := ⟨_, KI _ _ hcell, rfl⟩
  refine wpAny_loadName_free S.kind S.cls (by rfl) hcs ?_
  obtain ⟨m, hnm, hlm⟩ := id I.loc
  obtain ⟨u0, r0, l0⟩ := hlm 0 ar.arg (.ref a) hN0 ha0 (.inl hloc0)
  obtain rfl : u0 = Value.ref a := r0
  have hm0 : m ar.arg = some (.ref a) := by
    rcases l0 with ⟨_, z⟩ | ⟨z, _⟩
    · exact z
    · have z' : scope.names.lookup ar.arg = some .cell ∨ scope.names.lookup ar.arg = some .free := z
      rw [hloc0] at z'
      rcases z' with z' | z' <;> cases z'
  refine wpAny_loadName_local S.kind hloc0 hnm hm0 ?_
  have hDh := KI _ _ hD
  refine PySem.ks_wpAny_isType_cls hDh hDd ⟨rfl, ?_⟩
  obtain ⟨t0, hoa⟩ := exo_at I.hok ha
  have haC : a ≠ C := neC KI I.hok
  refine PySem.ks_wpAny_call_super hDh hDd hoa rfl (fun c z => by cases z) (PySem.W.looks_mroIn KI hmro) (fun h2 e2 k2 => ?_)
  have I2 := I.kept (h' := h2) (t' := s.toks + (ps.zip us).length) k2
  obtain ⟨t2, hoa2⟩ := exo_at I2.hok ha
  have hInst : PySem.W.Looks (model P w) h2 (isInstance (.ref a) (.type "ValueError")) true := by
    have IA : PySem.W.InstAt h2 a _ C none := ⟨hoa2, rfl, rfl, trivial⟩
    exact IA.type.andThen (PySem.W.looks_subIn I2.kIn hsubV)
  unfold PySem.W.ks_superIn at hsi
  rw [hcl] at hsi
  refine PySem.W.kxs_getMethod PySem.W.kxs_ValueError e2 (PySem.W.looks_opaque I2.kIn hno) (fun A Q E s k q => wpAny_bind ((PySem.W.looks_clsIn I2.kIn hcl) A _ E s k (wpAny_pure q))) rfl I2.kIn hsi hInst haC (by decide) ?_
  have k3 : ∀ b u, h2.get? b = some u → (h2.push (PySem.W.kxs_mw "ValueError.__init__" a)).get? b = some u := fun b o z => Heap.get?_push_of_some _ z
  have I3 := I2.kept (h' := h2.push (PySem.W.kxs_mw "ValueError.__init__" a)) (t' := s.toks + (ps.zip us).length + 1) k3
  have hmw : (h2.push (PySem.W.kxs_mw "ValueError.__init__" a)).get? h2.objs.size = some (PySem.W.kxs_mw "ValueError.__init__" a) := Heap.get?_push_at rfl rfl
  have I4 := I3.pins_of (pins' := [(h2.objs.size, PySem.W.kxs_mw "ValueError.__init__" a)]) (fun p hp => by
    rw [List.mem_singleton] at hp
    subst hp
    refine ⟨hmw, I2.hok.fresh (Nat.le_refl _), Nat.ne_of_gt I2.lt, I2.nofs (Nat.le_refl _), fun v z => by cases z⟩)
  show wpAny _ _ (callWith p3 (.ref h2.objs.size) [] (backTo p3 (starEach (e :: es) (PySem.W.ksEnv qual scope s.heap.objs.size f (.ref cda) cc))) []) _ _ _
  have hA := hPA.run p3 [(h2.objs.size, PySem.W.kxs_mw "ValueError.__init__" a)] _ (start N vs) H _ I4 hq
  have hA' : wpAny (model P w) (A.deeper (PySem.W.ksEnv qual scope s.heap.objs.size f (.ref cda) cc)) (spliced (backTo p3 (starEach (e :: es) (PySem.W.ksEnv qual scope s.heap.objs.size f (.ref cda) cc)))) _ _ _ := hA
  rw [he] at hA' ⊢
  refine PySem.W.kxs_callWith (i := "ValueError.__init__") (x := a) (by show (false || (backTo p3 (starEach es _)).any (·.1)) = false; rw [hpl]; rfl) ?_
  refine PySem.Calls.evalArgs_plain (thn hA' fun ws s1 h1 => ?_)
  obtain ⟨vs1, H1, I5, r5, hz5, ha5, q5⟩ := h1
  have hmw5 := (I5.pin (h2.objs.size, PySem.W.kxs_mw "ValueError.__init__" a) (by simp)).1
  refine ⟨hmw5, ?_⟩
  obtain ⟨t5, hoa5⟩ := exo_at I5.hok ha5
  have hlen : ws.length ≤ sizeLine := by
    rw [← Paired.length r5, sizeLine_eq]
    omega
  obtain ⟨hp5, g5, d5, tk5, os5⟩ := s1
  refine call_bwG F.excBase_ValueError (I5.kIn _ _ hC) hoa5 hmw5 hlen fun h6 t6 k6 e6 => ?_
  have J := I5.write (t' := tk5) (x := a) (e := a) (o := exo a C none) (by rw [ha5]; exact True.intro) (.inl rfl) k6 ⟨_, e6⟩ (exo_ok e6)
  have eu : upd H1 a (exo a C none) = H1 := by
    funext b
    by_cases hb : b = a
    · rw [hb, upd_same, ha5]
    · rw [upd_ne hb]
  rw [eu] at J
  show PySem.wpAt (model P w) (A.deeper (PySem.W.ksEnv qual scope s.heap.objs.size f (.ref cda) cc)) _ (execs rest (PySem.W.ksEnv qual scope s.heap.objs.size f (.ref cda) cc)) _ _ _
  refine PySem.wpAt_of_wpAny (wpAny_mono (hPS.run _ _ (start N vs) H1 _ J q5) (fun fl s' hs => ?_) fun e s' hs => hs)
  have fin : ∀ {pn : List (Addr × Obj)} {σ' : St} {H' : Hp} {v : V} {u : Value}, Inv (cxOfS CX P w K mg base N qual scope f (.ref cda) cc A outer s H E) pn σ' H' s' → RelV v u → Q v H' → CE outer P w H s Q u s' :=
    fun {pn σ' H' v u} J rv q => ⟨v, H', J.os, J.bare, J.base, J.hok, rv, q⟩
  cases fl with
  | ret u =>
    obtain ⟨v, σ', H', J, rv, q⟩ := hs
    exact fin J rv q
  | next =>
    obtain ⟨σ', H', J, q⟩ := hs
    exact fin (v := V.non) (u := Value.none) J rfl q
  | brk =>
    obtain ⟨_, _, _, q⟩ := hs
    exact False.elim q
  | cont =>
    obtain ⟨_, _, _, q⟩ := hs
    exact False.elim q
end L2

namespace L2
open PySem PySem.Spec PyProof.Rows

/-- C(e, ..) of an own exception class, held as a value -/
def tMkV (C : Addr) (sp : Sp) (dvs : List V) (E : XK) (ta : TA) : TE := fun σ H Q => ta σ H fun vs H1 => vs.length ≤ 1000 ∧ ∀ a, H1 a = none → sp (.ref a :: (vs ++ dvs)) (upd H1 a (exo a C none)) (fun v H2 => v = .non ∧ Q (.ref a) H2) E
theorem pe_mkv {X : Cx} {e : Expr} {es : List Expr} {ta : TA} {p pos : Pos} {CX : CXT} {x : Str} {C fI : Addr} {k : Nat} {fd : FuncData} {ps : List Str} {sp : Sp} {ds : List Value} {dvs : List V} {E : XK} (T : OexC X.K C) (iC : PySem.W.findIn X.K (.ref C) "__init__" = some (some (.ref fI))) (tI : PySem.W.typeIn X.K (.ref fI) = some (.type "function"))
    (F1 : FnOk X.prog X.w X.K X.mg X.base CX k fI fd ps sp) (hr : Room (k + 1) X.A) (hb : Binds X.K fd ps ds) (hd : Vals dvs ds) (hx : Passes CX X E) (hg : Gl X x) (hm : X.mg x = some (.ref C)) (ha : PA X (e :: es) ta)
    (hdb : (x == ("__debug__" : Str)) = false := by decide) (he : starEach (e :: es) X.env = (false, eval e X.env) :: starEach es X.env := by rfl) (hpl : (backTo pos (starEach es X.env)).any (·.1) = false := by rfl) :
    PE X (.Call (.Name x p) (e :: es) [] pos) (tMkV C sp dvs E ta) := by
  refine ⟨fun pins s σ H Q I h => ?_⟩
  obtain ⟨nm, q, N, bs, bm, sn, sub, ab, col, dd, k0, k1, k2, k3, k5, hC, hbm⟩ := T.cls
  refine wpAny_Call_Name_kw (ld_glob I hg hm ?_ hdb)
  refine PySem.W.callWith_K (h₀ := X.base) I.ok.mod.kin T.kC (thn (ha.run pos pins s σ H _ I h) fun us s1 ⟨vs, H1, I1, r1, hz, q1⟩ => ⟨I1.kIn, ?_⟩) he hpl
  show wpAny _ _ (call (.ref C) us) _ _ _
  obtain ⟨hp, g, dr, tk, os⟩ := s1
  have hsz : hp.objs.size ≤ hp.objs.size + 1 := Nat.le_succ _
  have hn : H1 (hp.objs.size + 1) = none := I1.hok.fresh hsz
  have hq := q1 (hp.objs.size + 1) hn
  have kk : ∀ b o, hp.get? b = some o → ((hp.push (PySem.W.kdv_tup us)).push (PySem.HandSPX.excO C hp.objs.size)).get? b = some o := fun b o e => Heap.get?_push_of_some _ (Heap.get?_push_of_some _ e)
  have hget : ((hp.push (PySem.W.kdv_tup us)).push (PySem.HandSPX.excO C hp.objs.size)).get? (hp.objs.size + 1) = some (PySem.HandSPX.excO C hp.objs.size) := by heap_get
  have I2 : Inv X pins σ (upd H1 (hp.objs.size + 1) (exo (hp.objs.size + 1) C none)) ⟨(hp.push (PySem.W.kdv_tup us)).push (PySem.HandSPX.excO C hp.objs.size), g, dr, tk, os⟩ :=
    I1.laid (t' := tk) (a := hp.objs.size + 1) (o := exo (hp.objs.size + 1) C none) (h' := (hp.push (PySem.W.kdv_tup us)).push (PySem.HandSPX.excO C hp.objs.size)) kk hsz (exo_ok hget)
  have r2 : Vals (V.ref (hp.objs.size + 1) :: (vs ++ dvs)) (Value.ref (hp.objs.size + 1) :: (us ++ ds)) := .cons rfl (r1.append hd)
  have hl : (Value.ref (hp.objs.size + 1) :: us ++ ds).length = ps.length := by
    have e := r2.length
    rw [F1.len _ _ _ _ hq] at e
    exact e.symm
  have hus : us.length ≤ sizeLine := by
    rw [← Paired.length r1, sizeLine_eq]
    omega
  refine wpAny_call (PySem.HandSPX.call_own F.excBase_ValueError (fun Y => PySem.HandSPX.refsVE_contains Y bm hbm) (I1.kIn _ _ hC) (PySem.W.looks_findIn I1.kIn iC) (fun self => PySem.W.bind_fn I1.kIn self tI) hus
    (codeAny_mono (F1.run _ X.stack _ _ ⟨Value.ref (hp.objs.size + 1) :: us, []⟩ (Value.ref (hp.objs.size + 1) :: (us ++ ds)) _ _ E (hr.make C us []) (I2.env0.make C us []) (hb _ (Value.ref (hp.objs.size + 1) :: us) I2.kIn hl) r2 hq) fun r s' hq' => ?_))
  cases r with
  | error er => exact hx pins σ _ _ er s' I2 hq'
  | ok fl =>
    cases fl with
    | ret u =>
      obtain ⟨v, H2, os2, bare2, un2, hok2, rv, ev, q2⟩ := hq'
      subst ev
      exact ⟨rv, .ref (hp.objs.size + 1), H2, I2.call' (ch := []) os2 un2 hok2 bare2 (fun b z => absurd z (by simp)), rfl, q2⟩
    | next => exact False.elim hq'
    | brk => exact False.elim hq'
    | cont => exact False.elim hq'
/-- e.f of such a value -/
def tFldX (K : PySem.W.Frag) (f : Str) (te : TE) : TE := fun σ H Q => te σ H fun x H1 => ∃ (a C d : Addr) (fs : List (Str × V)) (v : V), x = .ref a ∧ H1 a = some (exo a C (some d)) ∧ H1 d = some (exd d fs) ∧ XfC K C ∧ PySem.W.findIn K (.ref C) f = some none ∧ fs.lookup f = some v ∧ Q v H1
theorem pe_fldX {X : Cx} {e : Expr} {te : TE} {pos : Pos} {f : Str} (he : PE X e te) (hb : attributeBase e f X.env (eval e X.env) = eval e X.env := by rfl) : PE X (.Attribute e f pos) (tFldX X.K f te) := by
  refine ⟨fun pins s σ H Q I h => ?_⟩
  refine attr_of hb (thn (he.run pins s σ H _ I h) fun u s1 ⟨x, H1, I1, rx, a, C, d, fs, v, ex, ea, ed, T, hno, l, q⟩ => ?_)
  subst ex
  obtain rfl : u = Value.ref a := rx
  obtain ⟨t1, ho⟩ := exo_at I1.hok ea
  obtain ⟨mA, hns, rel⟩ := exd_at I1.hok ed
  obtain ⟨od, hod, hl⟩ := lookIn_ns hns
  obtain ⟨u, hu, ru⟩ := RelO.some_of (v := v) (o := mA f) (by rw [← l]; exact rel f)
  have J : PySem.W.InstAt s1.heap a _ C (some od) := ⟨ho, rfl, rfl, hod⟩
  exact HandSPX.exc_get I1.kIn J T.ga T.gg T.exC (PySem.W.findObj_own T.hdC hno rfl (by rw [hl, hu])) (handed_of ru) ⟨v, H1, I1.tok _, ru, q⟩
/-- what the class must say for isinstance -/
structure ExcCC (K : PySem.W.Frag) (D : Addr) : Prop where
  hc : (PySem.W.clsIn K D).isSome = true
  hg : PySem.W.findIn K (.ref D) "__getattribute__" = some (some (.builtin "BaseException.__getattribute__"))
  hk : PySem.W.findIn K (.ref D) "__getattr__" = some none
  hs : PySem.W.subIn K (.ref D) (.type "BaseException") = some true
  ha : PySem.W.findIn K (.ref D) "__class__" = some (some (.builtin "object.__class__"))
  hn : PySem.W.specialIn K (.builtin "object.__class__") "__get__" = some (some (.builtin "getset_descriptor.__get__"))
  ht : PySem.W.takesIn K (.builtin "object.__class__") = some true
  hm : PySem.W.mroIn K D (.type "object") = some true
def rIsXo (K : PySem.W.Frag) : List V → Hp → VK → Prop := fun xs H Q => ∃ (a C d : Addr) (fs : List (Str × V)) (c : V) (cv : Value) (b : Bool), xs = [.ref a, c] ∧ H a = some (exo a C (some d)) ∧ H d = some (exd d fs) ∧ ExcCC K C ∧ (∀ u, RelV c u → u = cv) ∧ PySem.W.kitOne K (.ref C) cv = some b ∧ Q (.bl b) H
theorem call_isXo {X : Cx} : CallR X (.builtin "isinstance") (rIsXo X.K) := by
  intro pins s σ H xs us Q I r h
  obtain ⟨a, C, d, fs, c, cv, b, rfl, ea, ed, E, hcv, e, q⟩ := h
  cases r with
  | cons rx rr =>
    cases rr with
    | cons rt rr =>
      cases rr
      cases rx
      have ec := hcv _ rt
      subst ec
      obtain ⟨t1, ho⟩ := exo_at I.hok ea
      obtain ⟨mA, hns, rel⟩ := exd_at I.hok ed
      obtain ⟨od, hod, hl⟩ := lookIn_ns hns
      have J : PySem.W.InstAt s.heap a _ C (some od) := ⟨ho, rfl, rfl, hod⟩
      exact PySem.W.kia_one (PySem.W.kitx_exc (gt := none) E.hc E.hg E.hk E.hs E.ha E.hn E.ht E.hm) I.kIn J e (fun z => nomatch z) fun tk => ⟨.bl b, H, I.kept (t' := tk) fun _ _ z => z, rfl, q⟩
end L2

namespace Lw
open PySem L2
def top (i : Nat) : Stmt := PySem.Challenge.pw_recallrow_k00_errors.main.body.getD i (.Pass ⟨0, 0, 0, 0⟩)
abbrev sNum : Stmt := top 8
abbrev sDraw : Stmt := top 9
abbrev sTake : Stmt := top 10
abbrev sLaw : Stmt := top 11
def nts (rs : List Int) : List V := rs.map V.int

/-! ### the promises -/
def spNum (K : PySem.W.Frag) : Sp := fun vs H Q _ => ∃ (a : Addr) (ns : List Int), vs = [.ref a] ∧ SqL K H a (ns.map V.int) ∧ ns.length ≤ 63 ∧
  ∀ (p : Addr) (rs : List Int) (H' : Hp), H p = none → Same H H' → H' p = some (.lst (nts rs)) → 1 ≤ rs.length → rs.length ≤ 4000 → Q (.ref p) H'
def spDraw : Sp := fun vs H Q _ => ∃ (p : Addr) (rs : List Int) (at_ lim : Int), vs = [.ref p, .int at_, .int lim] ∧ H p = some (.lst (nts rs)) ∧ 1 ≤ rs.length ∧ rs.length ≤ 4000 ∧ 0 ≤ at_ ∧ at_ < 10000 ∧ 0 < lim ∧
  ∀ r : Int, 0 ≤ r → r < lim → Q (.int r) H
def spTake : Sp := fun vs H Q _ => ∃ (p q : Addr) (rs : List Int) (n lim : Int), vs = [.ref p, .ref q, .int lim] ∧ H p = some (.lst (nts rs)) ∧ H q = some (.lst [.int n]) ∧ p ≠ q ∧ 1 ≤ rs.length ∧ rs.length ≤ 4000 ∧ 0 ≤ n ∧ n < 9000 ∧ 0 < lim ∧
  ∀ r : Int, 0 ≤ r → r < lim → Q (.int r) (upd H q (.lst [.int (n + 1)]))
structure Txt (K : PySem.W.Frag) (mg : Str → Option Value) : Prop where
  len : mg "len" = none
  rng : mg "range" = none
  int_ : mg "int" = none
section
variable {P : Program} {w : World} {K : PySem.W.Frag} {mg : Str → Option Value} {base : Heap}
theorem scN : FnScope ["script", "row", "cell", "left", "k", "mixed"] ["script"] (defScope sNum) := ⟨rfl, rfl, rfl, by decide +kernel, rfl, by decide +kernel, by decide +kernel⟩
theorem scD : FnScope ["row", "at", "limit", "mixed"] ["row", "at", "limit"] (defScope sDraw) := ⟨rfl, rfl, rfl, by decide +kernel, rfl, by decide +kernel, by decide +kernel⟩
theorem scT : FnScope ["row", "spot", "limit"] ["row", "spot", "limit"] (defScope sTake) := ⟨rfl, rfl, rfl, by decide +kernel, rfl, by decide +kernel, by decide +kernel⟩
theorem ok_num {f : Addr} {fd : FuncData} (F : Fun K "_law_numbers" "_law_numbers" sNum f fd) (T : Txt K mg) : FnOk P w K mg base CX0 1 f fd ["script"] (spNum K) := by
  refine F.ok scN (fun vs H Q E h => ?_) (fun cdv A outer s H vs Q E hr h => ?_)
  · obtain ⟨a, ns, rfl, _⟩ := h
    rfl
  · obtain ⟨a, ns, rfl, hS, hl, k⟩ := h
    refine ⟨_, pss_cons (ps_set (i := 1) scN.nd rfl (Or.inl rfl) (pe_lst pa_nil))
      (pss_cons (ps_for PassesOwn.never rfl (pi_list (pe_slice sl_list (pv 0) po_none (po_some pe_int))) (pg_name (i := 2) scN.nd rfl (Or.inl rfl))
        (pss_one (ps_if (pt_cmpR op_ge (pv 2) (pe_op op_pow pe_int pe_int) (nomark _))
          (pss_cons (ps_set (i := 3) scN.nd rfl (Or.inl rfl) (pv 2))
            (pss_one (ps_for PassesOwn.never rfl (pi_range1 rfl T.rng (pa_cons pe_int pa_nil)) (pg_name (i := 4) scN.nd rfl (Or.inl rfl))
              (pss_cons (ps_if (pt_cmpR op_eq (pv 3) pe_int (nomark _)) (pss_one ps_break) pss_nil)
              (pss_cons (ps_expr (pe_bm PySem.F.plainAttrs_list PySem.F.slot_list_append PySem.F.type_list_append mt_append (pv 1) (pa_cons (pe_op op_mod (pe_callTy call_int1 (by rfl) T.int_ PyProof.Rows.boot_int (pa_cons (pv 3) pa_nil)) pe_int) pa_nil)))
              (pss_one (ps_set (i := 3) scN.nd rfl (Or.inl rfl) (pe_op op_fdiv (pv 3) pe_int))))))))
          (pss_one (ps_for PassesOwn.never rfl (pi_range1 rfl T.rng (pa_cons pe_int pa_nil)) (pg_name (i := 4) scN.nd rfl (Or.inl rfl))
              (pss_cons (ps_set (i := 5) scN.nd rfl (Or.inl rfl) (pe_op op_mod (pe_callTy call_int1 (by rfl) T.int_ PyProof.Rows.boot_int (pa_cons (pe_op op_add (pe_op op_add (pe_op op_mul (pv 2) pe_int) (pe_op op_mul (pv 4) pe_int)) pe_int) pa_nil)) pe_int))
              (pss_one (ps_expr (pe_bm PySem.F.plainAttrs_list PySem.F.slot_list_append PySem.F.type_list_append mt_append (pv 1) (pa_cons (pe_op op_mod (pe_callTy call_int1 (by rfl) T.int_ PyProof.Rows.boot_int (pa_cons (pe_op op_add (pe_op op_mul (pv 5) pe_int) (pv 4)) pa_nil)) pe_int) pa_nil))))))))))
      (pss_cons (ps_if (pt_cmpR op_eq (pe_callB call_len_seq (by rfl) T.len PySem.boot_len (pa_cons (pv 1) pa_nil)) pe_int (nomark _))
          (pss_one (ps_expr (pe_bm PySem.F.plainAttrs_list PySem.F.slot_list_append PySem.F.type_list_append mt_append (pv 1) (pa_cons pe_int pa_nil)))) pss_nil)
      (pss_one (ps_ret (pv 1))))), ?_⟩
    refine ⟨Nat.zero_le _, fun p hp => ?_⟩
    have s1 : Same H (upd H p (.lst [])) := fun b o e => by rw [upd_ne (ne_of_none e hp)]; exact e
    refine ⟨_, rfl, _, rfl, a, _, rfl, s1.seq hS, fun q hq => ?_⟩
    have npq : p ≠ q := fun e => by rw [← e, upd_same] at hq; cases hq
    have s2 : Same (upd H p (.lst [])) (upd (upd H p (.lst [])) q (.lst (cutV (ns.map V.int) none (some 63)))) := fun b o e => by rw [upd_ne (ne_of_none e hq)]; exact e
    have hcut : ∃ ms : List Int, cutV (ns.map V.int) none (some 63) = ms.map V.int ∧ ms.length ≤ 63 := by
      refine ⟨(ns.drop (HT.sIx (ns.map V.int).length 0 none)).take (HT.sIx (ns.map V.int).length (ns.map V.int).length (some 63) - HT.sIx (ns.map V.int).length 0 none), ?_, ?_⟩
      · unfold cutV
        rw [List.map_take, List.map_drop]
      · rw [List.length_take, List.length_drop]
        omega
    obtain ⟨ms, ems, hms⟩ := hcut
    rw [ems]
    have s3 : Same H (upd (upd H p (.lst [])) q (.lst (ms.map V.int))) := fun b o e => by
      rw [upd_ne (ne_of_none (s1 b o e) hq)]; exact s1 b o e
    refine ⟨q, rfl, ⟨_, SqL.of upd_same⟩, for_list (K := K) (a := q) (xs := ms.map V.int) (fun i σ H' => ∃ (rs : List Int) (c l kk m : Option V), σ = [some (.ref a), some (.ref p), c, l, kk, m] ∧ Same H H' ∧ H' p = some (.lst (nts rs)) ∧ H' q = some (.lst (ms.map V.int)) ∧ rs.length ≤ 60 * i)
      ⟨[], _, _, _, _, rfl, s3, by rw [upd_ne npq, upd_same]; rfl, upd_same, Nat.zero_le _⟩ (fun i σ H' _ ⟨_, _, _, _, _, _, _, _, hq, _⟩ => SqL.of hq) ?_ ?_⟩
    · rintro i y σ H' hi ⟨rs, c, l, kk, m, rfl, s4, hp4, hq4, hlen⟩
      have him : i < ms.length := by
        have z := (List.getElem?_eq_some_iff.mp hi).1
        rwa [List.length_map] at z
      obtain ⟨z, rfl⟩ : ∃ z, y = V.int z := by
        rw [List.getElem?_map] at hi
        cases e : ms[i]? with
        | none => rw [e] at hi; cases hi
        | some z => rw [e] at hi; exact ⟨z, (Option.some.inj hi).symm⟩
      refine ⟨_, rfl, _, _, rfl, rfl, ⟨by decide, by decide, by decide⟩, _, _, rfl, rfl, _, rfl, ?_⟩
      refine ite2 (fun _ => ?_) (fun _ => ?_)
      · refine ⟨_, rfl, 60, rfl, by decide, by decide, for_range (n := 60) (fun j σ H' => ∃ (rs' : List Int) (c kk m : Option V) (l : Int), σ = [some (.ref a), some (.ref p), c, some (.int l), kk, m] ∧ Same H H' ∧ H' p = some (.lst (nts rs')) ∧ H' q = some (.lst (ms.map V.int)) ∧ rs'.length ≤ rs.length + j)
          ⟨rs, _, _, _, _, rfl, s4, hp4, hq4, by omega⟩ ?_ ?_⟩
        · rintro j σ H5 hj ⟨rs', c', kk', m', l', rfl, s5, hp5, hq5, hlen'⟩
          refine ⟨_, rfl, rfl, _, rfl, ite2 (fun _ => ?_) (fun _ => ?_)⟩
          · exact ⟨rs', _, _, _, _, rfl, s5, hp5, hq5, by omega⟩
          · refine ⟨_, rfl, .inl ⟨rfl, _, SqL.of hp5⟩, _, rfl, .inl ⟨_, rfl, _, _, rfl, rfl, (by show (0 : Int) < 997; decide), p, _, _, rfl, rfl, hp5, (by show (nts rs').length < sizeLine; rw [nts, List.length_map]; exact Nat.lt_of_lt_of_le (show rs'.length < 4000 by omega) (by decide)), ?_⟩⟩
            refine ⟨_, rfl, _, _, rfl, rfl, ⟨by decide, by decide⟩, ?_⟩
            refine ⟨rs' ++ [l' % 997], _, _, _, _, rfl, fun b o e => ?_, ?_, ?_, ?_⟩
            · rw [upd_ne (ne_of_none e hp)]; exact s5 b o e
            · rw [upd_same, nts, nts, List.map_append]; rfl
            · rw [upd_ne (Ne.symm npq)]; exact hq5
            · rw [List.length_append, List.length_singleton]; omega
        · rintro σ H5 ⟨rs', c', kk', m', l', rfl, s5, hp5, hq5, hlen'⟩
          exact ⟨rs', _, _, _, _, rfl, s5, hp5, hq5, by omega⟩
      · refine ⟨4, rfl, by decide, by decide, for_range (n := 4) (fun j σ H' => ∃ (rs' : List Int) (l kk m : Option V), σ = [some (.ref a), some (.ref p), some (.int z), l, kk, m] ∧ Same H H' ∧ H' p = some (.lst (nts rs')) ∧ H' q = some (.lst (ms.map V.int)) ∧ rs'.length ≤ rs.length + j)
          ⟨rs, _, _, _, rfl, s4, hp4, hq4, by omega⟩ ?_ ?_⟩
        · rintro j σ H5 hj ⟨rs', l', kk', m', rfl, s5, hp5, hq5, hlen'⟩
          refine ⟨_, rfl, _, _, rfl, rfl, .inr ⟨by decide, by decide⟩, _, rfl, _, _, rfl, rfl, .inr ⟨by decide, by decide⟩, _, _, rfl, rfl, _, _, rfl, rfl, .inl ⟨_, rfl, _, _, rfl, rfl, (by show (0 : Int) < 2147483647; decide), ?_⟩⟩
          refine ⟨_, rfl, .inl ⟨rfl, _, SqL.of hp5⟩, _, rfl, _, _, rfl, rfl, .inr ⟨by decide, by decide⟩, _, rfl, _, _, rfl, rfl, .inl ⟨_, rfl, _, _, rfl, rfl, (by show (0 : Int) < 2147483629; decide), p, _, _, rfl, rfl, hp5, (by show (nts rs').length < sizeLine; rw [nts, List.length_map]; exact Nat.lt_of_lt_of_le (show rs'.length < 4000 by omega) (by decide)), ?_⟩⟩
          refine ⟨rs' ++ [((z * 48271 + (0 + (j : Int)) * 69621 + 11) % 2147483647 * 16807 + (0 + (j : Int))) % 2147483629], _, _, _, rfl, fun b o e => ?_, ?_, ?_, ?_⟩
          · rw [upd_ne (ne_of_none e hp)]; exact s5 b o e
          · rw [upd_same, nts, nts, List.map_append]; rfl
          · rw [upd_ne (Ne.symm npq)]; exact hq5
          · rw [List.length_append, List.length_singleton]; omega
        · rintro σ H5 ⟨rs', l', kk', m', rfl, s5, hp5, hq5, hlen'⟩
          exact ⟨rs', _, _, _, _, rfl, s5, hp5, hq5, by omega⟩
    · rintro σ H' ⟨rs, c, l, kk, m, rfl, s4, hp4, hq4, hlen⟩
      rw [List.length_map] at hlen
      refine ⟨_, rfl, p, _, rfl, .inl (SqL.of hp4), rfl, _, rfl, ite2 (fun hz => ?_) (fun hz => ?_)⟩
      · refine ⟨_, rfl, .inl ⟨rfl, _, SqL.of hp4⟩, p, _, _, rfl, rfl, hp4, (by show (nts rs).length < sizeLine; rw [nts, List.length_map]; exact Nat.lt_of_lt_of_le (show rs.length < 4000 by omega) (by decide)), ?_⟩
        refine ⟨_, rfl, k p (rs ++ [0]) _ hp (fun b o e => ?_) ?_ ?_ ?_⟩
        · rw [upd_ne (ne_of_none e hp)]; exact s4 b o e
        · rw [upd_same, nts, nts, List.map_append]; rfl
        · rw [List.length_append, List.length_singleton]; omega
        · rw [List.length_append, List.length_singleton]; omega
      · refine ⟨_, rfl, k p rs _ hp s4 hp4 ?_ (by omega)⟩
        have hz' : ¬ (decide (V.int ((nts rs).length : Int) = V.int 0)) = true := hz
        rw [nts, List.length_map] at hz'
        cases rs with
        | nil => exact absurd (by decide) hz'
        | cons _ _ => exact Nat.succ_le_succ (Nat.zero_le _)
theorem ok_draw {f : Addr} {fd : FuncData} (F : Fun K "_law_draw" "_law_draw" sDraw f fd) (T : Txt K mg) : FnOk P w K mg base CX0 1 f fd ["row", "at", "limit"] spDraw := by
  refine F.ok scD (fun vs H Q E h => ?_) (fun cdv A outer s H vs Q E hr h => ?_)
  · obtain ⟨p, rs, at_, lim, rfl, _⟩ := h
    rfl
  · obtain ⟨p, rs, at_, lim, rfl, hp, l1, l2, a0, a1, l0, k⟩ := h
    refine ⟨_, pss_cons (ps_if (pt_cmpR op_lt (pv 1) (pe_callB call_len_seq (by rfl) T.len PySem.boot_len (pa_cons (pv 0) pa_nil)) (nomark _))
        (pss_one (ps_ret (pe_op op_mod (pe_callTy call_int1 (by rfl) T.int_ PyProof.Rows.boot_int (by exact (pa_cons (pe_ix ix_list (pv 0) (pv 1) (fun _ _ => rfl)) pa_nil))) (pv 2)))) pss_nil)
      (pss_cons (ps_set (i := 3) scD.nd rfl (Or.inl rfl) (pe_op op_mod (pe_callTy call_int1 (by rfl) T.int_ PyProof.Rows.boot_int (pa_cons (pe_op op_add (pe_op op_add (pe_op op_mul (pe_ix ix_list (pv 0) (pe_op op_mod (pe_callTy call_int1 (by rfl) T.int_ PyProof.Rows.boot_int (pa_cons (pv 1) pa_nil)) (pe_callB call_len_seq (by rfl) T.len PySem.boot_len (pa_cons (pv 0) pa_nil))) (fun _ _ => rfl)) pe_int) (pe_op op_mul (pv 1) pe_int)) pe_int) pa_nil)) pe_int))
      (pss_one (ps_ret (pe_op op_mod (pe_callTy call_int1 (by rfl) T.int_ PyProof.Rows.boot_int (pa_cons (pe_op op_mod (pe_callTy call_int1 (by rfl) T.int_ PyProof.Rows.boot_int (pa_cons (pe_op op_add (pe_op op_mul (pv 3) pe_int) (pv 1)) pa_nil)) pe_int) pa_nil)) (pv 2))))), ?_⟩
    refine ⟨_, rfl, _, rfl, p, _, rfl, .inl (SqL.of hp), _, _, rfl, rfl, _, rfl, ite2 (fun h1 => ?_) (fun h1 => ?_)⟩
    all_goals rw [nts, List.length_map] at h1
    · have h1' : at_ < rs.length := of_decide_eq_true h1
      obtain ⟨x, hx⟩ : ∃ x, rs[at_.toNat]? = some x := ⟨rs[at_.toNat]'(by omega), List.getElem?_eq_getElem _⟩
      refine ⟨_, rfl, _, rfl, p, _, _, _, rfl, rfl, SqL.of hp, (by rw [show at_ = ((at_.toNat : Nat) : Int) by omega]; exact atI_nat (by rw [nts, List.getElem?_map, hx]; rfl)), .inl ⟨x, rfl, _, rfl, _, _, rfl, rfl, l0, k _ (Int.emod_nonneg _ (by omega)) (Int.emod_lt_of_pos _ l0)⟩⟩
    · have hpos : (0 : Int) < (rs.length : Int) := by omega
      have b0 := Int.emod_nonneg at_ (show (rs.length : Int) ≠ 0 by omega)
      have b1 := Int.emod_lt_of_pos at_ hpos
      obtain ⟨x, hx⟩ : ∃ x, rs[(at_ % (rs.length : Int)).toNat]? = some x := ⟨rs[(at_ % (rs.length : Int)).toNat]'(by omega), List.getElem?_eq_getElem _⟩
      refine ⟨_, rfl, _, rfl, .inl ⟨_, rfl, _, rfl, p, _, rfl, .inl (SqL.of hp), _, _, rfl, rfl, (by show (0 : Int) < ((nts rs).length : Int); rw [nts, List.length_map]; exact hpos), ?_⟩⟩
      have eL : ((nts rs).length : Int) = (rs.length : Int) := by rw [nts, List.length_map]
      refine ⟨p, _, _, .int x, rfl, rfl, SqL.of hp, (by show atI (nts rs) (at_ % ((nts rs).length : Int)) = _; rw [eL, show at_ % (rs.length : Int) = (((at_ % (rs.length : Int)).toNat : Nat) : Int) by omega]; exact atI_nat (by rw [nts, List.getElem?_map, hx]; rfl)), ?_⟩
      refine ⟨_, _, rfl, rfl, .inr ⟨by decide, by decide⟩, _, rfl, _, _, rfl, rfl, .inr ⟨by decide, by decide⟩, _, _, rfl, rfl, _, _, rfl, rfl, .inl ⟨_, rfl, _, _, rfl, rfl, (by show (0 : Int) < 2147483399; decide), ?_⟩⟩
      refine ⟨_, rfl, _, _, rfl, rfl, .inr ⟨by decide, by decide⟩, _, rfl, _, _, rfl, rfl, .inl ⟨_, rfl, _, _, rfl, rfl, (by show (0 : Int) < 2147483647; decide), .inl ⟨_, rfl, _, rfl, _, _, rfl, rfl, l0, k _ (Int.emod_nonneg _ (by omega)) (Int.emod_lt_of_pos _ l0)⟩⟩⟩
theorem ok_take {f fD : Addr} {fd fdD : FuncData} (F : Fun K "_law_take" "_law_take" sTake f fd) (T : Txt K mg) (FD : Fun K "_law_draw" "_law_draw" sDraw fD fdD) (gD : mg "_law_draw" = some (.ref fD)) (bD : Binds K fdD ["row", "at", "limit"] []) : FnOk P w K mg base CX0 2 f fd ["row", "spot", "limit"] spTake := by
  have GD : FnOk P w K mg base CX0 1 fD fdD ["row", "at", "limit"] spDraw := ok_draw FD T
  refine F.ok scT (fun vs H Q E h => ?_) (fun cdv A outer s H vs Q E hr h => ?_)
  · obtain ⟨p, q, rs, n, lim, rfl, _⟩ := h
    rfl
  · obtain ⟨p, q, rs, n, lim, rfl, hp, hq, npq, l1, l2, n0, n1, l0, k⟩ := h
    refine ⟨_, pss_cons (ps_asg (pe_op op_add (pe_ix ix_list (pv 1) pe_int (fun _ _ => rfl)) pe_int) (pg_sub (pv 1) pe_int set_list))
      (pss_one (ps_ret (pe_call GD hr rfl gD FD.kp bD .nil pass0 (pa_cons (pv 0) (pa_cons (pe_op op_sub (pe_ix ix_list (pv 1) pe_int (fun _ _ => rfl)) pe_int) (pa_cons (pv 2) pa_nil)))))), ?_⟩
    refine ⟨_, rfl, q, _, _, _, rfl, rfl, SqL.of hq, rfl, _, _, rfl, rfl, _, rfl, q, _, 0, 0, rfl, rfl, hq, rfl, ?_⟩
    refine ⟨_, rfl, _, rfl, q, _, _, _, rfl, rfl, SqL.of upd_same, rfl, _, _, rfl, rfl, _, rfl, ?_⟩
    exact ⟨p, rs, n + 1 - 1, lim, rfl, (by rw [upd_ne npq]; exact hp), l1, l2, by omega, by omega, l0, fun r r0 r1 => k r r0 r1⟩
end
end Lw

namespace L2
open PySem PySem.Spec PyProof.Rows
/-- the parts of an f-string, each of at most 2000 signs -/
def tJb : List TE → Str → St → Hp → (Str → Hp → Prop) → Prop
  | [], acc, _, H, Q => Q acc H
  | t :: ts, acc, σ, H, Q => t σ H fun x H1 => ∃ y : Str, x = .str y ∧ y.length ≤ 2000 ∧ tJb ts (acc ++ y) σ H1 Q
/-- a reading that bears a wider end -/
def MonoE (t : TE) : Prop := ∀ (σ : St) (H : Hp) (Q Q' : VK), (∀ x H1, Q x H1 → Q' x H1) → t σ H Q → t σ H Q'
theorem tJs_b : ∀ (ts : List TE) (acc : Str) (σ : St) (H : Hp) (Q : Str → Hp → Prop), (∀ t ∈ ts, MonoE t) → acc.length + 2000 * ts.length ≤ 16777216 → tJb ts acc σ H Q → tJs ts acc σ H Q
  | [], _, _, _, _, _, _, h => h
  | t :: ts, acc, σ, H, Q, hm, hl, h => hm t (by simp) σ H _ _ (fun x H1 ⟨y, e, ly, r⟩ => by
      have z : (acc ++ y).length = acc.length + y.length := PySem.strLen_append acc y
      rw [List.length_cons] at hl
      refine ⟨y, e, by rw [z, sizeLine_eq]; omega, tJs_b ts (acc ++ y) σ H1 Q (fun t ht => hm t (by simp [ht])) (by rw [z]; omega) r⟩) h
theorem mono_c {v : V} : MonoE (tC v) := fun _ _ _ _ f h => f _ _ h
theorem mono_v {i : Nat} : MonoE (tVar i) := fun _ _ _ _ f ⟨v, e, h⟩ => ⟨v, e, f _ _ h⟩
theorem mono_fmt {t : TE} (m : MonoE t) : MonoE (tFmt t) := fun σ H Q Q' f h => m σ H _ _ (fun x H1 z => by
  rcases z with ⟨y, e, l, q⟩ | ⟨i, e, l, q⟩
  · exact .inl ⟨y, e, l, f _ _ q⟩
  · exact .inr ⟨i, e, l, f _ _ q⟩) h
theorem mono_fmtR {t : TE} (m : MonoE t) : MonoE (tFmtR t) := fun σ H Q Q' f h => m σ H _ _ (fun x H1 z => by
  rcases z with ⟨y, e, l, q⟩ | ⟨i, e, l, q⟩
  · exact .inl ⟨y, e, l, f _ _ q⟩
  · exact .inr ⟨i, e, l, f _ _ q⟩) h
end L2
namespace Lw
open PySem L2
/-- a value that the messages of the errors can bear -/
def Tel (v : V) : Prop := (∃ i : Int, v = .int i ∧ i.natAbs.log2 < 1920) ∨ ∃ y : Str, v = .str y ∧ y.length ≤ 2000
def TelI (v : V) : Prop := ∃ i : Int, v = .int i ∧ i.natAbs.log2 < 1920
theorem len_int {i : Int} (h : i.natAbs.log2 < 1920) : (PySem.Str.ofString (toString i)).length ≤ 2000 := Nat.le_trans (PyProof.Rows.int_text_len_1921 h) (by decide)
theorem fmt_of {i : Nat} {v : V} {σ : St} {H : Hp} {Q : VK} (hσ : σ[i]? = some (some v)) (T : Tel v) (h : ∀ y : Str, y.length ≤ 2000 → Q (.str y) H) : tFmt (tVar i) σ H Q := by
  refine ⟨v, hσ, ?_⟩
  rcases T with ⟨i, rfl, l⟩ | ⟨y, rfl, l⟩
  · exact .inr ⟨i, rfl, l, h _ (len_int l)⟩
  · exact .inl ⟨y, rfl, by rw [sizeLine_eq]; omega, h _ l⟩
theorem fmtR_of {i : Nat} {v : V} {σ : St} {H : Hp} {Q : VK} (hσ : σ[i]? = some (some v)) (T : TelI v) (h : ∀ y : Str, y.length ≤ 2000 → Q (.str y) H) : tFmtR (tVar i) σ H Q := by
  refine ⟨v, hσ, ?_⟩
  obtain ⟨i, rfl, l⟩ := T
  exact .inr ⟨i, rfl, l, h _ (len_int l)⟩
/-- what the text says of an own error class over CardError -/
structure XCls (K : PySem.W.Frag) (C : Addr) (fs : List Str) : Prop where
  o : OexC K C
  mro : PySem.W.mroIn K C (.ref C) = some true
  sup : PySem.W.ks_superIn K C C "__init__" = some (some (.builtin "ValueError.__init__"))
  sub : PySem.W.subIn K (.ref C) (.type "ValueError") = some true
  nof : ∀ f ∈ fs, PySem.W.findIn K (.ref C) f = some none
/-- .. and of its __init__ -/
structure XInit (K : PySem.W.Frag) (P : Program) (mg : Str → Option Value) (q : Str) (st : Stmt) (C f : Addr) (fd : FuncData) : Prop where
  d : ∃ (cc cda : Addr) (oc dV kV doc pm ct : Value) (an od : Option Addr) (osl : Array (Option Value)) (cl ccl : Value) (cld cdd : Option Addr) (csl ccs : Array (Option Value)) (vsC : Array Value) (file : Str) (tf : Tok) (oD : Obj) (cdD : ClassData),
    fd = PySem.W.ksFn "__init__" q (defArgs st) (defBody st) (defScope st) dV kV doc pm an (.ref cda) ct cc ∧
    K.lookup f = some ⟨oc, od, .func (PySem.W.ksFn "__init__" q (defArgs st) (defBody st) (defScope st) dV kV doc pm an (.ref cda) ct cc), osl⟩ ∧
    PySem.W.codeIn K (.ref cda) q = true ∧ K.lookup cc = some ⟨cl, cld, .cell (some (.ref C)), csl⟩ ∧ K.lookup cda = some ⟨ccl, cdd, .fields vsC, ccs⟩ ∧ vsC[2]? = some (.str file tf) ∧ ((P.main.file : Str) == file) = true ∧
    K.lookup C = some oD ∧ oD.data = .cls cdD
  htop : (P.main.scope.names.lookup ("super" : Str)).isSome = false
  hms : mg "super" = none
  hno : PySem.W.nsIn K cStatics "thirdparty.any" = some none
  iC : PySem.W.findIn K (.ref C) "__init__" = some (some (.ref f))
  tI : PySem.W.typeIn K (.ref f) = some (.type "function")
def initOf (c : Stmt) : Stmt := match c with
  | .ClassDef _ _ _ body _ _ _ _ _ _ _ => body.getD 0 (.Pass ⟨0, 0, 0, 0⟩)
  | s => s
/-- the promise of an own __init__ with one field, with two -/
def spX1 (K : PySem.W.Frag) (C : Addr) (ok : V → Prop) (f : Str) : Sp := fun vs H Q _ => ∃ (a : Addr) (x : V), vs = [.ref a, x] ∧ XCls K C [f] ∧ H a = some (exo a C none) ∧ ok x ∧
  ∀ d, H d = none → d ≠ a → Q .non (upd (upd H d (exd d [(f, x)])) a (exo a C (some d)))
def spX2 (K : PySem.W.Frag) (C : Addr) (ok ok' : V → Prop) (f g : Str) : Sp := fun vs H Q _ => ∃ (a : Addr) (x y : V), vs = [.ref a, x, y] ∧ XCls K C [f, g] ∧ H a = some (exo a C none) ∧ ok x ∧ ok' y ∧
  ∀ d, H d = none → d ≠ a → Q .non (upd (upd (upd H d (exd d [(f, x)])) a (exo a C (some d))) d (exd d [(g, y), (f, x)]))
section
variable {P : Program} {w : World} {K : PySem.W.Frag} {mg : Str → Option Value} {base : Heap}
abbrev sBadTemplate : Stmt := initOf (top 2)
theorem scBadTemplate : FnScopeS ["self", "at", "why"] ["self", "at", "why"] (defScope sBadTemplate) := ⟨rfl, rfl, rfl, by decide +kernel, rfl, by decide +kernel, by decide +kernel, by decide +kernel, rfl, rfl⟩
theorem ok_BadTemplate {C f : Addr} {fd : FuncData} (F : XInit K P mg "BadTemplate.__init__" sBadTemplate C f fd) : FnOk P w K mg base CX0 1 f fd ["self", "at", "why"] (spX2 K C (Tel) (Tel) "at" "why") := by
  obtain ⟨cc, cda, oc, dV, kV, doc, pm, ct, an, od, osl, cl, ccl, cld, cdd, csl, ccs, vsC, file, tf, oD, cdD, rfl, lk, hcd, hcell, hcode, hvs, hfile, hD, hDd⟩ := F.d
  refine fn_of_super lk hcd scBadTemplate hcell hcode hvs hfile rfl rfl hD hDd F.htop F.hms F.hno (fun vs H Q E h => ?_) (fun A outer s H vs Q E hr h => ?_)
  · obtain ⟨a, x, y, rfl, _⟩ := h
    rfl
  · obtain ⟨a, x, y, rfl, XC, ha, t1, t2, k⟩ := h
    refine ⟨a, C, _, _, rfl, XC.o, XC.mro, XC.sup, XC.sub, ha, pa_cons (pe_joined (.cons pe_str (.cons (pe_fmt (pv 1)) (.cons pe_str (.cons (pe_fmt (pv 2)) .nil))))) pa_nil, pss_cons (ps_ost (pv 0) (pv 1)) (pss_one (ps_ost (pv 0) (pv 2))), ?_⟩
    refine tJs_b _ _ _ _ _ (by simp [mono_c, mono_v, mono_fmt, mono_fmtR]) (by decide +kernel) ?_
    refine ⟨_, rfl, by decide +kernel, ?_⟩
    refine fmt_of rfl t1 fun y1 l1 => ⟨y1, rfl, l1, ?_⟩
    refine ⟨_, rfl, by decide +kernel, ?_⟩
    refine fmt_of rfl t2 fun y3 l3 => ⟨y3, rfl, l3, ?_⟩
    refine ⟨(by show 1 ≤ 1000; decide), ha, ?_⟩
    refine ⟨_, rfl, _, rfl, a, C, rfl, XC.o, XC.nof _ (by simp), .inl ⟨ha, fun d hd dn => ?_⟩⟩
    refine ⟨_, rfl, _, rfl, a, C, rfl, XC.o, XC.nof _ (by simp), .inr ⟨d, _, upd_same, by rw [upd_ne dn, upd_same], (by show 1 ≤ 900; decide), ?_⟩⟩
    exact k d hd dn
abbrev sBadMoment : Stmt := initOf (top 3)
theorem scBadMoment : FnScopeS ["self", "at", "last"] ["self", "at", "last"] (defScope sBadMoment) := ⟨rfl, rfl, rfl, by decide +kernel, rfl, by decide +kernel, by decide +kernel, by decide +kernel, rfl, rfl⟩
theorem ok_BadMoment {C f : Addr} {fd : FuncData} (F : XInit K P mg "BadMoment.__init__" sBadMoment C f fd) : FnOk P w K mg base CX0 1 f fd ["self", "at", "last"] (spX2 K C (Tel) (Tel) "at" "last") := by
  obtain ⟨cc, cda, oc, dV, kV, doc, pm, ct, an, od, osl, cl, ccl, cld, cdd, csl, ccs, vsC, file, tf, oD, cdD, rfl, lk, hcd, hcell, hcode, hvs, hfile, hD, hDd⟩ := F.d
  refine fn_of_super lk hcd scBadMoment hcell hcode hvs hfile rfl rfl hD hDd F.htop F.hms F.hno (fun vs H Q E h => ?_) (fun A outer s H vs Q E hr h => ?_)
  · obtain ⟨a, x, y, rfl, _⟩ := h
    rfl
  · obtain ⟨a, x, y, rfl, XC, ha, t1, t2, k⟩ := h
    refine ⟨a, C, _, _, rfl, XC.o, XC.mro, XC.sup, XC.sub, ha, pa_cons (pe_joined (.cons pe_str (.cons (pe_fmt (pv 1)) (.cons pe_str (.cons (pe_fmt (pv 2)) .nil))))) pa_nil, pss_cons (ps_ost (pv 0) (pv 1)) (pss_one (ps_ost (pv 0) (pv 2))), ?_⟩
    refine tJs_b _ _ _ _ _ (by simp [mono_c, mono_v, mono_fmt, mono_fmtR]) (by decide +kernel) ?_
    refine ⟨_, rfl, by decide +kernel, ?_⟩
    refine fmt_of rfl t1 fun y1 l1 => ⟨y1, rfl, l1, ?_⟩
    refine ⟨_, rfl, by decide +kernel, ?_⟩
    refine fmt_of rfl t2 fun y3 l3 => ⟨y3, rfl, l3, ?_⟩
    refine ⟨(by show 1 ≤ 1000; decide), ha, ?_⟩
    refine ⟨_, rfl, _, rfl, a, C, rfl, XC.o, XC.nof _ (by simp), .inl ⟨ha, fun d hd dn => ?_⟩⟩
    refine ⟨_, rfl, _, rfl, a, C, rfl, XC.o, XC.nof _ (by simp), .inr ⟨d, _, upd_same, by rw [upd_ne dn, upd_same], (by show 1 ≤ 900; decide), ?_⟩⟩
    exact k d hd dn
abbrev sBadButton : Stmt := initOf (top 4)
theorem scBadButton : FnScopeS ["self", "button"] ["self", "button"] (defScope sBadButton) := ⟨rfl, rfl, rfl, by decide +kernel, rfl, by decide +kernel, by decide +kernel, by decide +kernel, rfl, rfl⟩
theorem ok_BadButton {C f : Addr} {fd : FuncData} (F : XInit K P mg "BadButton.__init__" sBadButton C f fd) : FnOk P w K mg base CX0 1 f fd ["self", "button"] (spX1 K C (TelI) "button") := by
  obtain ⟨cc, cda, oc, dV, kV, doc, pm, ct, an, od, osl, cl, ccl, cld, cdd, csl, ccs, vsC, file, tf, oD, cdD, rfl, lk, hcd, hcell, hcode, hvs, hfile, hD, hDd⟩ := F.d
  refine fn_of_super lk hcd scBadButton hcell hcode hvs hfile rfl rfl hD hDd F.htop F.hms F.hno (fun vs H Q E h => ?_) (fun A outer s H vs Q E hr h => ?_)
  · obtain ⟨a, x, rfl, _⟩ := h
    rfl
  · obtain ⟨a, x, rfl, XC, ha, t1, k⟩ := h
    refine ⟨a, C, _, _, rfl, XC.o, XC.mro, XC.sup, XC.sub, ha, pa_cons (pe_joined (.cons pe_str (.cons (pe_fmtR (pv 1)) .nil))) pa_nil, pss_one (ps_ost (pv 0) (pv 1)), ?_⟩
    refine tJs_b _ _ _ _ _ (by simp [mono_c, mono_v, mono_fmt, mono_fmtR]) (by decide +kernel) ?_
    refine ⟨_, rfl, by decide +kernel, ?_⟩
    refine fmtR_of rfl t1 fun y1 l1 => ⟨y1, rfl, l1, ?_⟩
    refine ⟨(by show 1 ≤ 1000; decide), ha, ?_⟩
    refine ⟨_, rfl, _, rfl, a, C, rfl, XC.o, XC.nof _ (by simp), .inl ⟨ha, fun d hd dn => ?_⟩⟩
    exact k d hd dn
abbrev sNotDue : Stmt := initOf (top 5)
theorem scNotDue : FnScopeS ["self", "number"] ["self", "number"] (defScope sNotDue) := ⟨rfl, rfl, rfl, by decide +kernel, rfl, by decide +kernel, by decide +kernel, by decide +kernel, rfl, rfl⟩
theorem ok_NotDue {C f : Addr} {fd : FuncData} (F : XInit K P mg "NotDue.__init__" sNotDue C f fd) : FnOk P w K mg base CX0 1 f fd ["self", "number"] (spX1 K C (Tel) "number") := by
  obtain ⟨cc, cda, oc, dV, kV, doc, pm, ct, an, od, osl, cl, ccl, cld, cdd, csl, ccs, vsC, file, tf, oD, cdD, rfl, lk, hcd, hcell, hcode, hvs, hfile, hD, hDd⟩ := F.d
  refine fn_of_super lk hcd scNotDue hcell hcode hvs hfile rfl rfl hD hDd F.htop F.hms F.hno (fun vs H Q E h => ?_) (fun A outer s H vs Q E hr h => ?_)
  · obtain ⟨a, x, rfl, _⟩ := h
    rfl
  · obtain ⟨a, x, rfl, XC, ha, t1, k⟩ := h
    refine ⟨a, C, _, _, rfl, XC.o, XC.mro, XC.sup, XC.sub, ha, pa_cons (pe_joined (.cons pe_str (.cons (pe_fmt (pv 1)) (.cons pe_str .nil)))) pa_nil, pss_one (ps_ost (pv 0) (pv 1)), ?_⟩
    refine tJs_b _ _ _ _ _ (by simp [mono_c, mono_v, mono_fmt, mono_fmtR]) (by decide +kernel) ?_
    refine ⟨_, rfl, by decide +kernel, ?_⟩
    refine fmt_of rfl t1 fun y1 l1 => ⟨y1, rfl, l1, ?_⟩
    refine ⟨_, rfl, by decide +kernel, ?_⟩
    refine ⟨(by show 1 ≤ 1000; decide), ha, ?_⟩
    refine ⟨_, rfl, _, rfl, a, C, rfl, XC.o, XC.nof _ (by simp), .inl ⟨ha, fun d hd dn => ?_⟩⟩
    exact k d hd dn
abbrev sBadImport : Stmt := initOf (top 6)
theorem scBadImport : FnScopeS ["self", "line", "why"] ["self", "line", "why"] (defScope sBadImport) := ⟨rfl, rfl, rfl, by decide +kernel, rfl, by decide +kernel, by decide +kernel, by decide +kernel, rfl, rfl⟩
theorem ok_BadImport {C f : Addr} {fd : FuncData} (F : XInit K P mg "BadImport.__init__" sBadImport C f fd) : FnOk P w K mg base CX0 1 f fd ["self", "line", "why"] (spX2 K C (Tel) (Tel) "line" "why") := by
  obtain ⟨cc, cda, oc, dV, kV, doc, pm, ct, an, od, osl, cl, ccl, cld, cdd, csl, ccs, vsC, file, tf, oD, cdD, rfl, lk, hcd, hcell, hcode, hvs, hfile, hD, hDd⟩ := F.d
  refine fn_of_super lk hcd scBadImport hcell hcode hvs hfile rfl rfl hD hDd F.htop F.hms F.hno (fun vs H Q E h => ?_) (fun A outer s H vs Q E hr h => ?_)
  · obtain ⟨a, x, y, rfl, _⟩ := h
    rfl
  · obtain ⟨a, x, y, rfl, XC, ha, t1, t2, k⟩ := h
    refine ⟨a, C, _, _, rfl, XC.o, XC.mro, XC.sup, XC.sub, ha, pa_cons (pe_joined (.cons pe_str (.cons (pe_fmt (pv 1)) (.cons pe_str (.cons (pe_fmt (pv 2)) .nil))))) pa_nil, pss_cons (ps_ost (pv 0) (pv 1)) (pss_one (ps_ost (pv 0) (pv 2))), ?_⟩
    refine tJs_b _ _ _ _ _ (by simp [mono_c, mono_v, mono_fmt, mono_fmtR]) (by decide +kernel) ?_
    refine ⟨_, rfl, by decide +kernel, ?_⟩
    refine fmt_of rfl t1 fun y1 l1 => ⟨y1, rfl, l1, ?_⟩
    refine ⟨_, rfl, by decide +kernel, ?_⟩
    refine fmt_of rfl t2 fun y3 l3 => ⟨y3, rfl, l3, ?_⟩
    refine ⟨(by show 1 ≤ 1000; decide), ha, ?_⟩
    refine ⟨_, rfl, _, rfl, a, C, rfl, XC.o, XC.nof _ (by simp), .inl ⟨ha, fun d hd dn => ?_⟩⟩
    refine ⟨_, rfl, _, rfl, a, C, rfl, XC.o, XC.nof _ (by simp), .inr ⟨d, _, upd_same, by rw [upd_ne dn, upd_same], (by show 1 ≤ 900; decide), ?_⟩⟩
    exact k d hd dn
end
end Lw

namespace Lw
open PySem L2
def spLaw (K : PySem.W.Frag) : Sp := fun vs H Q _ => ∃ (a : Addr) (ns : List Int), vs = [.ref a] ∧ SqL K H a (ns.map V.int) ∧ ns.length ≤ 63 ∧ ∀ H', Q (.bl true) H'
section
variable {P : Program} {w : World} {K : PySem.W.Frag} {mg : Str → Option Value} {base : Heap}
theorem scL : FnScope ["script", "row", "spot", "n", "one"] ["script"] (defScope sLaw) := ⟨rfl, rfl, rfl, by decide +kernel, rfl, by decide +kernel, by decide +kernel⟩
structure Cs (K : PySem.W.Frag) (P : Program) (mg : Str → Option Value) (x : Str) (q : Str) (st : Stmt) (fs : List Str) (C f : Addr) (fd : FuncData) : Prop where
  X : XCls K C fs
  I : XInit K P mg q st C f fd
  g : mg x = some (.ref C)
  b : ∀ n, n = fs.length + 1 → Binds K fd ("self" :: fs) []
  xf : XfC K C
structure Fs (K : PySem.W.Frag) (mg : Str → Option Value) (fN fD fT : Addr) (fdN fdD fdT : FuncData) : Prop where
  FN : Fun K "_law_numbers" "_law_numbers" sNum fN fdN
  FD : Fun K "_law_draw" "_law_draw" sDraw fD fdD
  FT : Fun K "_law_take" "_law_take" sTake fT fdT
  gN : mg "_law_numbers" = some (.ref fN)
  gD : mg "_law_draw" = some (.ref fD)
  gT : mg "_law_take" = some (.ref fT)
  bN : Binds K fdN ["script"] []
  bD : Binds K fdD ["row", "at", "limit"] []
  bT : Binds K fdT ["row", "spot", "limit"] []
theorem ok_law {f fN fD fT fBT fBM fBB fND fBI cBT cBM cBB cND cBI cCE : Addr} {fd fdN fdD fdT fdBT fdBM fdBB fdND fdBI : FuncData} (F : Fun K "law" "law" sLaw f fd) (T : Txt K mg) (G : Fs K mg fN fD fT fdN fdD fdT)
    (BT : Cs K P mg "BadTemplate" "BadTemplate.__init__" sBadTemplate ["at", "why"] cBT fBT fdBT) (BM : Cs K P mg "BadMoment" "BadMoment.__init__" sBadMoment ["at", "last"] cBM fBM fdBM)
    (BB : Cs K P mg "BadButton" "BadButton.__init__" sBadButton ["button"] cBB fBB fdBB) (ND : Cs K P mg "NotDue" "NotDue.__init__" sNotDue ["number"] cND fND fdND)
    (BI : Cs K P mg "BadImport" "BadImport.__init__" sBadImport ["line", "why"] cBI fBI fdBI)
    (EC : ExcCC K cBT) (gCE : mg "CardError" = some (.ref cCE)) (i1 : PySem.W.kitOne K (.ref cBT) (.ref cCE) = some true) (i2 : PySem.W.kitOne K (.ref cBT) (.type "ValueError") = some true) (mII : mg "isinstance" = none) (mVE : mg "ValueError" = none) :
    FnOk P w K mg base CX0 4 f fd ["script"] (spLaw K) := by
  have GN : FnOk P w K mg base CX0 1 fN fdN ["script"] (spNum K) := ok_num G.FN T
  have GT : FnOk P w K mg base CX0 2 fT fdT ["row", "spot", "limit"] spTake := ok_take G.FT T G.FD G.gD G.bD
  have MBT := ok_BadTemplate (w := w) (base := base) BT.I
  have MBM := ok_BadMoment (w := w) (base := base) BM.I
  have MBB := ok_BadButton (w := w) (base := base) BB.I
  have MND := ok_NotDue (w := w) (base := base) ND.I
  have MBI := ok_BadImport (w := w) (base := base) BI.I
  refine F.ok scL (fun vs H Q E h => ?_) (fun cdv A outer s H vs Q E hr h => ?_)
  · obtain ⟨a, ns, rfl, _⟩ := h
    rfl
  · obtain ⟨a, ns, rfl, hS, hl, k⟩ := h
    have hr1 : Room 1 _ := hr.mono (by decide)
    have hr2 : Room 2 _ := hr.mono (by decide)
    refine ⟨_, pss_cons (ps_set (i := 1) scL.nd rfl (Or.inl rfl) (pe_call GN hr1 rfl G.gN G.FN.kp G.bN .nil pass0 (pa_cons (pv 0) pa_nil)))
      (pss_cons (ps_set (i := 2) scL.nd rfl (Or.inl rfl) (pe_lst (pa_cons pe_int pa_nil)))
      (pss_cons (ps_set (i := 3) scL.nd rfl (Or.inl rfl) (pe_call GT hr2 rfl G.gT G.FT.kp G.bT .nil pass0 (pa_cons (pv 1) (pa_cons (pv 2) (pa_cons pe_int pa_nil)))))
      (pss_cons (ps_set (i := 4) scL.nd rfl (Or.inl rfl) (pe_mkv BT.X.o BT.I.iC BT.I.tI MBT hr2 (BT.b 3 rfl) .nil pass0 rfl BT.g (pa_cons (pv 3) (pa_cons pe_str pa_nil))))
      (pss_cons (ps_if (pw_or (pt_cmpR op_ne (pe_fldX (pv 4)) (pv 3) (nomark _)) (pw_or (pt_cmpR op_ne (pe_fldX (pv 4)) pe_str (nomark _)) (pw_or (pt_not (pt_val (pe_callB call_isXo (by rfl) mII PyProof.Rows.boot_isinstance (pa_cons (pv 4) (pa_cons (pe_glob (v := .ref cCE) (by rfl) gCE rfl) pa_nil))))) (pw_or1 (pt_not (pt_val (pe_callB call_isXo (by rfl) mII PyProof.Rows.boot_isinstance (pa_cons (pv 4) (pa_cons (pe_bltn (v := .ty "ValueError") (by rfl) mVE PyProof.Rows.Boot.«ValueError» rfl) pa_nil))))))))).pt
          (pss_one (ps_ret pe_bl)) pss_nil)
      (pss_one (ps_ret (pe_and (pe_cmpR op_eq (pe_fldX (pe_mkv BM.X.o BM.I.iC BM.I.tI MBM hr2 (BM.b 3 rfl) .nil pass0 rfl BM.g (pa_cons (pv 3) (pa_cons (pe_op op_add (pv 3) pe_int) pa_nil)))) (pe_op op_add (pv 3) pe_int) (nomark _))
        (pe_and (pe_cmpR op_eq (pe_fldX (pe_mkv BI.X.o BI.I.iC BI.I.tI MBI hr2 (BI.b 3 rfl) .nil pass0 rfl BI.g (pa_cons (pv 3) (pa_cons pe_str pa_nil)))) (pv 3) (nomark _))
        (pe_and (pe_cmpR op_eq (pe_fldX (pe_mkv BB.X.o BB.I.iC BB.I.tI MBB hr2 (BB.b 2 rfl) .nil pass0 rfl BB.g (pa_cons (pv 3) pa_nil))) (pv 3) (nomark _))
        (pe_one (pe_cmpR op_eq (pe_fldX (pe_mkv ND.X.o ND.I.iC ND.I.tI MND hr2 (ND.b 2 rfl) .nil pass0 rfl ND.g (pa_cons (pv 3) pa_nil))) (pv 3) (nomark _)))))))))))), ?_⟩
    refine ⟨_, rfl, a, ns, rfl, hS, hl, fun p rs H1 hp s1 hp1 l1 l2 => ?_⟩
    refine ⟨(by show 1 ≤ sizeLine; decide), fun q hq => ?_⟩
    have npq : p ≠ q := fun e => by rw [← e, hp1] at hq; cases hq
    refine ⟨_, rfl, _, rfl, p, q, rs, 0, 1000, rfl, (by rw [upd_ne npq]; exact hp1), upd_same, npq, l1, l2, by decide, by decide, by decide, fun n n0 n1 => ?_⟩
    have ln : n.natAbs.log2 < 1920 := Nat.lt_of_le_of_lt (Nat.log2_le_self _) (by omega)
    have ln1 : (n + 1).natAbs.log2 < 1920 := Nat.lt_of_le_of_lt (Nat.log2_le_self _) (by omega)
    refine ⟨_, rfl, (by show 2 ≤ 1000; decide), fun e1 he1 => ⟨e1, _, _, rfl, BT.X, upd_same, .inl ⟨n, rfl, ln⟩, .inr ⟨_, rfl, by decide +kernel⟩, fun d1 hd1 nd1 => ⟨rfl, ?_⟩⟩⟩
    have hE : ∀ (H3 : Hp), upd (upd (upd H3 d1 (exd d1 [("at", .int n)])) e1 (exo e1 cBT (some d1))) d1 (exd d1 [("why", .str "w"), ("at", .int n)]) e1 = some (exo e1 cBT (some d1)) := fun H3 => by rw [upd_ne (Ne.symm nd1), upd_same]
    have lk2 : ∀ (f g : Str) (x y : V), f ≠ g → ([(g, y), (f, x)] : List (Str × V)).lookup f = some x := fun f g x y h => by rw [lookup_put, if_neg h, lookup_put, if_pos rfl]
    have lk1 : ∀ (f : Str) (x : V) (r : List (Str × V)), ((f, x) :: r).lookup f = some x := fun f x r => by rw [lookup_put, if_pos rfl]
    refine ⟨_, rfl, e1, cBT, d1, _, .int n, rfl, hE _, upd_same, BT.xf, BT.X.nof _ (by simp), lk2 _ _ _ _ (by decide), _, rfl, rfl, _, rfl, ite2 (fun z => ?_) (fun _ => ?_)⟩
    · simp at z
    refine ⟨_, rfl, e1, cBT, d1, _, .str "w", rfl, hE _, upd_same, BT.xf, BT.X.nof _ (by simp), lk1 _ _ _, rfl, _, rfl, ite2 (fun z => ?_) (fun _ => ?_)⟩
    · simp at z
    refine ⟨_, rfl, e1, cBT, d1, _, .ref cCE, .ref cCE, true, rfl, hE _, upd_same, EC, fun u z => z, i1, _, rfl, ite2 (fun z => ?_) (fun _ => ?_)⟩
    · simp at z
    refine ⟨_, rfl, e1, cBT, d1, _, .ty "ValueError", .type "ValueError", true, rfl, hE _, upd_same, EC, fun u z => z, i2, _, rfl, ite2 (fun z => ?_) (fun _ => ?_)⟩
    · simp at z
    -- the return
    refine ⟨_, rfl, _, rfl, _, _, rfl, rfl, (by show 2 ≤ 1000; decide), fun e2 he2 => ⟨e2, _, _, rfl, BM.X, upd_same, .inl ⟨n, rfl, ln⟩, .inl ⟨_, rfl, ln1⟩, fun d2 hd2 nd2 => ⟨rfl, ?_⟩⟩⟩
    refine ⟨e2, cBM, d2, _, .int (n + 1), rfl, (by rw [upd_ne (Ne.symm nd2), upd_same]), upd_same, BM.xf, BM.X.nof _ (by simp), lk1 _ _ _, _, rfl, _, _, rfl, rfl, rfl, _, rfl, ite2 (fun _ => ?_) (fun z => ?_)⟩
    rotate_left
    · simp at z
    refine ⟨_, rfl, (by show 2 ≤ 1000; decide), fun e3 he3 => ⟨e3, _, _, rfl, BI.X, upd_same, .inl ⟨n, rfl, ln⟩, .inr ⟨_, rfl, by decide +kernel⟩, fun d3 hd3 nd3 => ⟨rfl, ?_⟩⟩⟩
    refine ⟨e3, cBI, d3, _, .int n, rfl, (by rw [upd_ne (Ne.symm nd3), upd_same]), upd_same, BI.xf, BI.X.nof _ (by simp), lk2 _ _ _ _ (by decide), _, rfl, rfl, _, rfl, ite2 (fun _ => ?_) (fun z => ?_)⟩
    rotate_left
    · simp at z
    refine ⟨_, rfl, (by show 1 ≤ 1000; decide), fun e4 he4 => ⟨e4, _, rfl, BB.X, upd_same, ⟨n, rfl, ln⟩, fun d4 hd4 nd4 => ⟨rfl, ?_⟩⟩⟩
    refine ⟨e4, cBB, d4, _, .int n, rfl, upd_same, (by rw [upd_ne nd4, upd_same]), BB.xf, BB.X.nof _ (by simp), lk1 _ _ _, _, rfl, rfl, _, rfl, ite2 (fun _ => ?_) (fun z => ?_)⟩
    rotate_left
    · simp at z
    refine ⟨_, rfl, (by show 1 ≤ 1000; decide), fun e5 he5 => ⟨e5, _, rfl, ND.X, upd_same, .inl ⟨n, rfl, ln⟩, fun d5 hd5 nd5 => ⟨rfl, ?_⟩⟩⟩
    refine ⟨e5, cND, d5, _, .int n, rfl, upd_same, (by rw [upd_ne nd5, upd_same]), ND.xf, ND.X.nof _ (by simp), lk1 _ _ _, _, rfl, rfl, ?_⟩
    have e : decide (V.int n = V.int n) = true := decide_eq_true rfl
    show Q (V.bl (decide (V.int n = V.int n))) _
    rw [e]
    exact k _
end
end Lw

namespace Lw
open PySem L2
theorem all_mk {l : PySem.W.OpenLaw} {w : World} {K : PySem.W.Frag} {h : Heap} {mg : Str → Option Value} {fa f1 f2 f3 f4 : Addr} (X : K.In h) (G : h.Ns mainGlobals mg) (hfa : mg "law" = some (.ref fa))
    {od1 an1 od2 an2 od3 an3 od4 an4 : Option Addr} {sl1 sl2 sl3 sl4 : Array (Option Value)} {oc1 kV1 dc1 pm1 cd1 ct1 oc2 kV2 dc2 pm2 cd2 ct2 oc3 kV3 dc3 pm3 cd3 ct3 oc4 kV4 dc4 pm4 cd4 ct4 : Value}
    (a1 : PySem.W.nsIn K mainGlobals "_law_numbers" = some (some (.ref f1))) (l1 : K.lookup f1 = some ⟨oc1, od1, .func (PySem.W.fnOf "_law_numbers" "_law_numbers" (defArgs sNum) (defBody sNum) (defScope sNum) .none kV1 dc1 pm1 an1 cd1 ct1), sl1⟩) (c1 : PySem.W.codeIn K cd1 "_law_numbers" = true) (k1 : PySem.W.keepIn K (.ref f1) = true)
    (a2 : PySem.W.nsIn K mainGlobals "_law_draw" = some (some (.ref f2))) (l2 : K.lookup f2 = some ⟨oc2, od2, .func (PySem.W.fnOf "_law_draw" "_law_draw" (defArgs sDraw) (defBody sDraw) (defScope sDraw) .none kV2 dc2 pm2 an2 cd2 ct2), sl2⟩) (c2 : PySem.W.codeIn K cd2 "_law_draw" = true) (k2 : PySem.W.keepIn K (.ref f2) = true)
    (a3 : PySem.W.nsIn K mainGlobals "_law_take" = some (some (.ref f3))) (l3 : K.lookup f3 = some ⟨oc3, od3, .func (PySem.W.fnOf "_law_take" "_law_take" (defArgs sTake) (defBody sTake) (defScope sTake) .none kV3 dc3 pm3 an3 cd3 ct3), sl3⟩) (c3 : PySem.W.codeIn K cd3 "_law_take" = true) (k3 : PySem.W.keepIn K (.ref f3) = true)
    (a4 : PySem.W.nsIn K mainGlobals "law" = some (some (.ref f4))) (l4 : K.lookup f4 = some ⟨oc4, od4, .func (PySem.W.fnOf "law" "law" (defArgs sLaw) (defBody sLaw) (defScope sLaw) .none kV4 dc4 pm4 an4 cd4 ct4), sl4⟩) (c4 : PySem.W.codeIn K cd4 "law" = true) (k4 : PySem.W.keepIn K (.ref f4) = true)
    (z_len : PySem.W.nsIn K mainGlobals "len" = some none)
    (z_range : PySem.W.nsIn K mainGlobals "range" = some none)
    (z_int : PySem.W.nsIn K mainGlobals "int" = some none)
    (z_super : PySem.W.nsIn K mainGlobals "super" = some none)
    (z_isinstance : PySem.W.nsIn K mainGlobals "isinstance" = some none)
    (z_ValueError : PySem.W.nsIn K mainGlobals "ValueError" = some none)
    {cCE : Addr} (aCE : PySem.W.nsIn K mainGlobals "CardError" = some (some (.ref cCE))) (hno : PySem.W.nsIn K cStatics "thirdparty.any" = some none) (htop : (l.prog.main.scope.names.lookup ("super" : Str)).isSome = false)
    {CBadTemplate NBadTemplate gBadTemplate ccBadTemplate cdaBadTemplate : Addr} {nmBadTemplate qBadTemplate : Str} {bsBadTemplate subBadTemplate : List Value} {snBadTemplate : List Str} {abBadTemplate : Bool} {colBadTemplate : Option Bool} {ddBadTemplate odBadTemplate anBadTemplate cldBadTemplate cddBadTemplate : Option Addr} {m0BadTemplate m1BadTemplate m2BadTemplate m3BadTemplate m5BadTemplate : Option Value} {ocBadTemplate kVBadTemplate dcBadTemplate pmBadTemplate ctBadTemplate clBadTemplate cclBadTemplate : Value} {slBadTemplate cslBadTemplate ccsBadTemplate : Array (Option Value)} {vsBadTemplate : Array Value} {fileBadTemplate : Str} {tfBadTemplate : Tok}
    (aBadTemplate : PySem.W.nsIn K mainGlobals "BadTemplate" = some (some (.ref CBadTemplate))) (xBadTemplate : K.lookup CBadTemplate = some (excClassObj nmBadTemplate qBadTemplate CBadTemplate NBadTemplate bsBadTemplate [.ref cCE, .type "ValueError", .type "Exception", .type "BaseException", .type "object"] true snBadTemplate subBadTemplate abBadTemplate colBadTemplate ddBadTemplate m0BadTemplate m1BadTemplate m2BadTemplate m3BadTemplate m5BadTemplate "ValueError.__new__")) (saBadTemplate : PySem.W.findIn K (.ref CBadTemplate) "__setattr__" = some (some (.builtin "object.__setattr__"))) (gaBadTemplate : PySem.W.findIn K (.ref CBadTemplate) "__getattribute__" = some (some (.builtin "BaseException.__getattribute__"))) (ggBadTemplate : PySem.W.findIn K (.ref CBadTemplate) "__getattr__" = some none) (iBadTemplate : PySem.W.findIn K (.ref CBadTemplate) "__init__" = some (some (.ref gBadTemplate))) (tiBadTemplate : PySem.W.typeIn K (.ref gBadTemplate) = some (.type "function")) (lBadTemplate : K.lookup gBadTemplate = some ⟨ocBadTemplate, odBadTemplate, .func (PySem.W.ksFn "__init__" "BadTemplate.__init__" (defArgs sBadTemplate) (defBody sBadTemplate) (defScope sBadTemplate) .none kVBadTemplate dcBadTemplate pmBadTemplate anBadTemplate (.ref cdaBadTemplate) ctBadTemplate ccBadTemplate), slBadTemplate⟩) (cBadTemplate : PySem.W.codeIn K (.ref cdaBadTemplate) "BadTemplate.__init__" = true) (eBadTemplate : K.lookup ccBadTemplate = some ⟨clBadTemplate, cldBadTemplate, .cell (some (.ref CBadTemplate)), cslBadTemplate⟩) (oBadTemplate : K.lookup cdaBadTemplate = some ⟨cclBadTemplate, cddBadTemplate, .fields vsBadTemplate, ccsBadTemplate⟩) (vBadTemplate : vsBadTemplate[2]? = some (.str fileBadTemplate tfBadTemplate)) (wBadTemplate : ((l.prog.main.file : Str) == fileBadTemplate) = true) (kCBadTemplate : PySem.W.keepIn K (.ref CBadTemplate) = true) (eCBadTemplate : PySem.W.subIn K (.ref CBadTemplate) (.type "BaseException") = some true) (vCBadTemplate : PySem.W.subIn K (.ref CBadTemplate) (.type "ValueError") = some true) (tCBadTemplate : PySem.W.typeIn K (.ref CBadTemplate) = some (.type "type")) (hCBadTemplate : PySem.W.hasDictIn K CBadTemplate = true) (mCBadTemplate : PySem.W.mroIn K CBadTemplate (.ref CBadTemplate) = some true) (sCBadTemplate : PySem.W.ks_superIn K CBadTemplate CBadTemplate "__init__" = some (some (.builtin "ValueError.__init__"))) (n0BadTemplate : PySem.W.findIn K (.ref CBadTemplate) "at" = some none) (n1BadTemplate : PySem.W.findIn K (.ref CBadTemplate) "why" = some none)
    {CBadMoment NBadMoment gBadMoment ccBadMoment cdaBadMoment : Addr} {nmBadMoment qBadMoment : Str} {bsBadMoment subBadMoment : List Value} {snBadMoment : List Str} {abBadMoment : Bool} {colBadMoment : Option Bool} {ddBadMoment odBadMoment anBadMoment cldBadMoment cddBadMoment : Option Addr} {m0BadMoment m1BadMoment m2BadMoment m3BadMoment m5BadMoment : Option Value} {ocBadMoment kVBadMoment dcBadMoment pmBadMoment ctBadMoment clBadMoment cclBadMoment : Value} {slBadMoment cslBadMoment ccsBadMoment : Array (Option Value)} {vsBadMoment : Array Value} {fileBadMoment : Str} {tfBadMoment : Tok}
    (aBadMoment : PySem.W.nsIn K mainGlobals "BadMoment" = some (some (.ref CBadMoment))) (xBadMoment : K.lookup CBadMoment = some (excClassObj nmBadMoment qBadMoment CBadMoment NBadMoment bsBadMoment [.ref cCE, .type "ValueError", .type "Exception", .type "BaseException", .type "object"] true snBadMoment subBadMoment abBadMoment colBadMoment ddBadMoment m0BadMoment m1BadMoment m2BadMoment m3BadMoment m5BadMoment "ValueError.__new__")) (saBadMoment : PySem.W.findIn K (.ref CBadMoment) "__setattr__" = some (some (.builtin "object.__setattr__"))) (gaBadMoment : PySem.W.findIn K (.ref CBadMoment) "__getattribute__" = some (some (.builtin "BaseException.__getattribute__"))) (ggBadMoment : PySem.W.findIn K (.ref CBadMoment) "__getattr__" = some none) (iBadMoment : PySem.W.findIn K (.ref CBadMoment) "__init__" = some (some (.ref gBadMoment))) (tiBadMoment : PySem.W.typeIn K (.ref gBadMoment) = some (.type "function")) (lBadMoment : K.lookup gBadMoment = some ⟨ocBadMoment, odBadMoment, .func (PySem.W.ksFn "__init__" "BadMoment.__init__" (defArgs sBadMoment) (defBody sBadMoment) (defScope sBadMoment) .none kVBadMoment dcBadMoment pmBadMoment anBadMoment (.ref cdaBadMoment) ctBadMoment ccBadMoment), slBadMoment⟩) (cBadMoment : PySem.W.codeIn K (.ref cdaBadMoment) "BadMoment.__init__" = true) (eBadMoment : K.lookup ccBadMoment = some ⟨clBadMoment, cldBadMoment, .cell (some (.ref CBadMoment)), cslBadMoment⟩) (oBadMoment : K.lookup cdaBadMoment = some ⟨cclBadMoment, cddBadMoment, .fields vsBadMoment, ccsBadMoment⟩) (vBadMoment : vsBadMoment[2]? = some (.str fileBadMoment tfBadMoment)) (wBadMoment : ((l.prog.main.file : Str) == fileBadMoment) = true) (kCBadMoment : PySem.W.keepIn K (.ref CBadMoment) = true) (eCBadMoment : PySem.W.subIn K (.ref CBadMoment) (.type "BaseException") = some true) (vCBadMoment : PySem.W.subIn K (.ref CBadMoment) (.type "ValueError") = some true) (tCBadMoment : PySem.W.typeIn K (.ref CBadMoment) = some (.type "type")) (hCBadMoment : PySem.W.hasDictIn K CBadMoment = true) (mCBadMoment : PySem.W.mroIn K CBadMoment (.ref CBadMoment) = some true) (sCBadMoment : PySem.W.ks_superIn K CBadMoment CBadMoment "__init__" = some (some (.builtin "ValueError.__init__"))) (n0BadMoment : PySem.W.findIn K (.ref CBadMoment) "at" = some none) (n1BadMoment : PySem.W.findIn K (.ref CBadMoment) "last" = some none)
    {CBadButton NBadButton gBadButton ccBadButton cdaBadButton : Addr} {nmBadButton qBadButton : Str} {bsBadButton subBadButton : List Value} {snBadButton : List Str} {abBadButton : Bool} {colBadButton : Option Bool} {ddBadButton odBadButton anBadButton cldBadButton cddBadButton : Option Addr} {m0BadButton m1BadButton m2BadButton m3BadButton m5BadButton : Option Value} {ocBadButton kVBadButton dcBadButton pmBadButton ctBadButton clBadButton cclBadButton : Value} {slBadButton cslBadButton ccsBadButton : Array (Option Value)} {vsBadButton : Array Value} {fileBadButton : Str} {tfBadButton : Tok}
    (aBadButton : PySem.W.nsIn K mainGlobals "BadButton" = some (some (.ref CBadButton))) (xBadButton : K.lookup CBadButton = some (excClassObj nmBadButton qBadButton CBadButton NBadButton bsBadButton [.ref cCE, .type "ValueError", .type "Exception", .type "BaseException", .type "object"] true snBadButton subBadButton abBadButton colBadButton ddBadButton m0BadButton m1BadButton m2BadButton m3BadButton m5BadButton "ValueError.__new__")) (saBadButton : PySem.W.findIn K (.ref CBadButton) "__setattr__" = some (some (.builtin "object.__setattr__"))) (gaBadButton : PySem.W.findIn K (.ref CBadButton) "__getattribute__" = some (some (.builtin "BaseException.__getattribute__"))) (ggBadButton : PySem.W.findIn K (.ref CBadButton) "__getattr__" = some none) (iBadButton : PySem.W.findIn K (.ref CBadButton) "__init__" = some (some (.ref gBadButton))) (tiBadButton : PySem.W.typeIn K (.ref gBadButton) = some (.type "function")) (lBadButton : K.lookup gBadButton = some ⟨ocBadButton, odBadButton, .func (PySem.W.ksFn "__init__" "BadButton.__init__" (defArgs sBadButton) (defBody sBadButton) (defScope sBadButton) .none kVBadButton dcBadButton pmBadButton anBadButton (.ref cdaBadButton) ctBadButton ccBadButton), slBadButton⟩) (cBadButton : PySem.W.codeIn K (.ref cdaBadButton) "BadButton.__init__" = true) (eBadButton : K.lookup ccBadButton = some ⟨clBadButton, cldBadButton, .cell (some (.ref CBadButton)), cslBadButton⟩) (oBadButton : K.lookup cdaBadButton = some ⟨cclBadButton, cddBadButton, .fields vsBadButton, ccsBadButton⟩) (vBadButton : vsBadButton[2]? = some (.str fileBadButton tfBadButton)) (wBadButton : ((l.prog.main.file : Str) == fileBadButton) = true) (kCBadButton : PySem.W.keepIn K (.ref CBadButton) = true) (eCBadButton : PySem.W.subIn K (.ref CBadButton) (.type "BaseException") = some true) (vCBadButton : PySem.W.subIn K (.ref CBadButton) (.type "ValueError") = some true) (tCBadButton : PySem.W.typeIn K (.ref CBadButton) = some (.type "type")) (hCBadButton : PySem.W.hasDictIn K CBadButton = true) (mCBadButton : PySem.W.mroIn K CBadButton (.ref CBadButton) = some true) (sCBadButton : PySem.W.ks_superIn K CBadButton CBadButton "__init__" = some (some (.builtin "ValueError.__init__"))) (n0BadButton : PySem.W.findIn K (.ref CBadButton) "button" = some none)
    {CNotDue NNotDue gNotDue ccNotDue cdaNotDue : Addr} {nmNotDue qNotDue : Str} {bsNotDue subNotDue : List Value} {snNotDue : List Str} {abNotDue : Bool} {colNotDue : Option Bool} {ddNotDue odNotDue anNotDue cldNotDue cddNotDue : Option Addr} {m0NotDue m1NotDue m2NotDue m3NotDue m5NotDue : Option Value} {ocNotDue kVNotDue dcNotDue pmNotDue ctNotDue clNotDue cclNotDue : Value} {slNotDue cslNotDue ccsNotDue : Array (Option Value)} {vsNotDue : Array Value} {fileNotDue : Str} {tfNotDue : Tok}
    (aNotDue : PySem.W.nsIn K mainGlobals "NotDue" = some (some (.ref CNotDue))) (xNotDue : K.lookup CNotDue = some (excClassObj nmNotDue qNotDue CNotDue NNotDue bsNotDue [.ref cCE, .type "ValueError", .type "Exception", .type "BaseException", .type "object"] true snNotDue subNotDue abNotDue colNotDue ddNotDue m0NotDue m1NotDue m2NotDue m3NotDue m5NotDue "ValueError.__new__")) (saNotDue : PySem.W.findIn K (.ref CNotDue) "__setattr__" = some (some (.builtin "object.__setattr__"))) (gaNotDue : PySem.W.findIn K (.ref CNotDue) "__getattribute__" = some (some (.builtin "BaseException.__getattribute__"))) (ggNotDue : PySem.W.findIn K (.ref CNotDue) "__getattr__" = some none) (iNotDue : PySem.W.findIn K (.ref CNotDue) "__init__" = some (some (.ref gNotDue))) (tiNotDue : PySem.W.typeIn K (.ref gNotDue) = some (.type "function")) (lNotDue : K.lookup gNotDue = some ⟨ocNotDue, odNotDue, .func (PySem.W.ksFn "__init__" "NotDue.__init__" (defArgs sNotDue) (defBody sNotDue) (defScope sNotDue) .none kVNotDue dcNotDue pmNotDue anNotDue (.ref cdaNotDue) ctNotDue ccNotDue), slNotDue⟩) (cNotDue : PySem.W.codeIn K (.ref cdaNotDue) "NotDue.__init__" = true) (eNotDue : K.lookup ccNotDue = some ⟨clNotDue, cldNotDue, .cell (some (.ref CNotDue)), cslNotDue⟩) (oNotDue : K.lookup cdaNotDue = some ⟨cclNotDue, cddNotDue, .fields vsNotDue, ccsNotDue⟩) (vNotDue : vsNotDue[2]? = some (.str fileNotDue tfNotDue)) (wNotDue : ((l.prog.main.file : Str) == fileNotDue) = true) (kCNotDue : PySem.W.keepIn K (.ref CNotDue) = true) (eCNotDue : PySem.W.subIn K (.ref CNotDue) (.type "BaseException") = some true) (vCNotDue : PySem.W.subIn K (.ref CNotDue) (.type "ValueError") = some true) (tCNotDue : PySem.W.typeIn K (.ref CNotDue) = some (.type "type")) (hCNotDue : PySem.W.hasDictIn K CNotDue = true) (mCNotDue : PySem.W.mroIn K CNotDue (.ref CNotDue) = some true) (sCNotDue : PySem.W.ks_superIn K CNotDue CNotDue "__init__" = some (some (.builtin "ValueError.__init__"))) (n0NotDue : PySem.W.findIn K (.ref CNotDue) "number" = some none)
    {CBadImport NBadImport gBadImport ccBadImport cdaBadImport : Addr} {nmBadImport qBadImport : Str} {bsBadImport subBadImport : List Value} {snBadImport : List Str} {abBadImport : Bool} {colBadImport : Option Bool} {ddBadImport odBadImport anBadImport cldBadImport cddBadImport : Option Addr} {m0BadImport m1BadImport m2BadImport m3BadImport m5BadImport : Option Value} {ocBadImport kVBadImport dcBadImport pmBadImport ctBadImport clBadImport cclBadImport : Value} {slBadImport cslBadImport ccsBadImport : Array (Option Value)} {vsBadImport : Array Value} {fileBadImport : Str} {tfBadImport : Tok}
    (aBadImport : PySem.W.nsIn K mainGlobals "BadImport" = some (some (.ref CBadImport))) (xBadImport : K.lookup CBadImport = some (excClassObj nmBadImport qBadImport CBadImport NBadImport bsBadImport [.ref cCE, .type "ValueError", .type "Exception", .type "BaseException", .type "object"] true snBadImport subBadImport abBadImport colBadImport ddBadImport m0BadImport m1BadImport m2BadImport m3BadImport m5BadImport "ValueError.__new__")) (saBadImport : PySem.W.findIn K (.ref CBadImport) "__setattr__" = some (some (.builtin "object.__setattr__"))) (gaBadImport : PySem.W.findIn K (.ref CBadImport) "__getattribute__" = some (some (.builtin "BaseException.__getattribute__"))) (ggBadImport : PySem.W.findIn K (.ref CBadImport) "__getattr__" = some none) (iBadImport : PySem.W.findIn K (.ref CBadImport) "__init__" = some (some (.ref gBadImport))) (tiBadImport : PySem.W.typeIn K (.ref gBadImport) = some (.type "function")) (lBadImport : K.lookup gBadImport = some ⟨ocBadImport, odBadImport, .func (PySem.W.ksFn "__init__" "BadImport.__init__" (defArgs sBadImport) (defBody sBadImport) (defScope sBadImport) .none kVBadImport dcBadImport pmBadImport anBadImport (.ref cdaBadImport) ctBadImport ccBadImport), slBadImport⟩) (cBadImport : PySem.W.codeIn K (.ref cdaBadImport) "BadImport.__init__" = true) (eBadImport : K.lookup ccBadImport = some ⟨clBadImport, cldBadImport, .cell (some (.ref CBadImport)), cslBadImport⟩) (oBadImport : K.lookup cdaBadImport = some ⟨cclBadImport, cddBadImport, .fields vsBadImport, ccsBadImport⟩) (vBadImport : vsBadImport[2]? = some (.str fileBadImport tfBadImport)) (wBadImport : ((l.prog.main.file : Str) == fileBadImport) = true) (kCBadImport : PySem.W.keepIn K (.ref CBadImport) = true) (eCBadImport : PySem.W.subIn K (.ref CBadImport) (.type "BaseException") = some true) (vCBadImport : PySem.W.subIn K (.ref CBadImport) (.type "ValueError") = some true) (tCBadImport : PySem.W.typeIn K (.ref CBadImport) = some (.type "type")) (hCBadImport : PySem.W.hasDictIn K CBadImport = true) (mCBadImport : PySem.W.mroIn K CBadImport (.ref CBadImport) = some true) (sCBadImport : PySem.W.ks_superIn K CBadImport CBadImport "__init__" = some (some (.builtin "ValueError.__init__"))) (n0BadImport : PySem.W.findIn K (.ref CBadImport) "line" = some none) (n1BadImport : PySem.W.findIn K (.ref CBadImport) "why" = some none)
    (y_hc : (PySem.W.clsIn K CBadTemplate).isSome = true) (y_ha : PySem.W.findIn K (.ref CBadTemplate) "__class__" = some (some (.builtin "object.__class__"))) (y_hn : PySem.W.specialIn K (.builtin "object.__class__") "__get__" = some (some (.builtin "getset_descriptor.__get__"))) (y_ht : PySem.W.takesIn K (.builtin "object.__class__") = some true) (y_hm : PySem.W.mroIn K CBadTemplate (.type "object") = some true) (y_i1 : PySem.W.kitOne K (.ref CBadTemplate) (.ref cCE) = some true) (y_i2 : PySem.W.kitOne K (.ref CBadTemplate) (.type "ValueError") = some true) :
    ∃ fd : FuncData, (∀ (s : Shared) (v : Value), BindsTo s fd ⟨[v], []⟩ [("script", v)]) ∧ ∀ base : Heap, K.In base → base.Ns mainGlobals mg → FnOk l.prog w K mg base CX0 4 fa fd ["script"] (spLaw K) := by
  have e := hfa.symm.trans (PySem.W.mg_of X G a4)
  cases e
  have F1 := fun_mk (st := sNum) l1 c1 k1
  have b1 := F1.binds (ps := ["script"]) fun _ _ _ _ _ _ us hl => match us, hl with | [_], _ => rfl
  have F2 := fun_mk (st := sDraw) l2 c2 k2
  have b2 := F2.binds (ps := ["row", "at", "limit"]) fun _ _ _ _ _ _ us hl => match us, hl with | [_, _, _], _ => rfl
  have F3 := fun_mk (st := sTake) l3 c3 k3
  have b3 := F3.binds (ps := ["row", "spot", "limit"]) fun _ _ _ _ _ _ us hl => match us, hl with | [_, _, _], _ => rfl
  have F4 := fun_mk (st := sLaw) l4 c4 k4
  have T : Txt K mg := ⟨PySem.W.mg_none_of X G z_len, PySem.W.mg_none_of X G z_range, PySem.W.mg_none_of X G z_int⟩
  have XBadTemplate : XCls K CBadTemplate ["at", "why"] := ⟨⟨⟨_, _, _, _, _, _, _, _, _, _, _, _, _, _, _, xBadTemplate, rfl⟩, saBadTemplate, eCBadTemplate, tCBadTemplate, kCBadTemplate⟩, mCBadTemplate, sCBadTemplate, vCBadTemplate, fun f hf => by
    simp only [List.mem_cons, List.not_mem_nil, or_false] at hf
    rcases hf with hf | hf <;> subst hf
    · exact n0BadTemplate
    · exact n1BadTemplate⟩
  have IBadTemplate : XInit K l.prog mg "BadTemplate.__init__" sBadTemplate CBadTemplate gBadTemplate _ := ⟨⟨ccBadTemplate, cdaBadTemplate, _, _, _, _, _, _, _, _, _, _, _, _, _, _, _, _, _, _, _, _, rfl, lBadTemplate, cBadTemplate, eBadTemplate, oBadTemplate, vBadTemplate, wBadTemplate, xBadTemplate, rfl⟩, htop, PySem.W.mg_none_of X G z_super, hno, iBadTemplate, tiBadTemplate⟩
  have SBadTemplate : Cs K l.prog mg "BadTemplate" "BadTemplate.__init__" sBadTemplate ["at", "why"] CBadTemplate gBadTemplate _ := ⟨XBadTemplate, IBadTemplate, PySem.W.mg_of X G aBadTemplate, fun _ _ => Binds.all fun us hl => (match us, hl with | [_, _, _], _ => rfl), ⟨gaBadTemplate, ggBadTemplate, eCBadTemplate, hCBadTemplate⟩⟩
  have XBadMoment : XCls K CBadMoment ["at", "last"] := ⟨⟨⟨_, _, _, _, _, _, _, _, _, _, _, _, _, _, _, xBadMoment, rfl⟩, saBadMoment, eCBadMoment, tCBadMoment, kCBadMoment⟩, mCBadMoment, sCBadMoment, vCBadMoment, fun f hf => by
    simp only [List.mem_cons, List.not_mem_nil, or_false] at hf
    rcases hf with hf | hf <;> subst hf
    · exact n0BadMoment
    · exact n1BadMoment⟩
  have IBadMoment : XInit K l.prog mg "BadMoment.__init__" sBadMoment CBadMoment gBadMoment _ := ⟨⟨ccBadMoment, cdaBadMoment, _, _, _, _, _, _, _, _, _, _, _, _, _, _, _, _, _, _, _, _, rfl, lBadMoment, cBadMoment, eBadMoment, oBadMoment, vBadMoment, wBadMoment, xBadMoment, rfl⟩, htop, PySem.W.mg_none_of X G z_super, hno, iBadMoment, tiBadMoment⟩
  have SBadMoment : Cs K l.prog mg "BadMoment" "BadMoment.__init__" sBadMoment ["at", "last"] CBadMoment gBadMoment _ := ⟨XBadMoment, IBadMoment, PySem.W.mg_of X G aBadMoment, fun _ _ => Binds.all fun us hl => (match us, hl with | [_, _, _], _ => rfl), ⟨gaBadMoment, ggBadMoment, eCBadMoment, hCBadMoment⟩⟩
  have XBadButton : XCls K CBadButton ["button"] := ⟨⟨⟨_, _, _, _, _, _, _, _, _, _, _, _, _, _, _, xBadButton, rfl⟩, saBadButton, eCBadButton, tCBadButton, kCBadButton⟩, mCBadButton, sCBadButton, vCBadButton, fun f hf => by
    simp only [List.mem_cons, List.not_mem_nil, or_false] at hf
    subst hf; exact n0BadButton⟩
  have IBadButton : XInit K l.prog mg "BadButton.__init__" sBadButton CBadButton gBadButton _ := ⟨⟨ccBadButton, cdaBadButton, _, _, _, _, _, _, _, _, _, _, _, _, _, _, _, _, _, _, _, _, rfl, lBadButton, cBadButton, eBadButton, oBadButton, vBadButton, wBadButton, xBadButton, rfl⟩, htop, PySem.W.mg_none_of X G z_super, hno, iBadButton, tiBadButton⟩
  have SBadButton : Cs K l.prog mg "BadButton" "BadButton.__init__" sBadButton ["button"] CBadButton gBadButton _ := ⟨XBadButton, IBadButton, PySem.W.mg_of X G aBadButton, fun _ _ => Binds.all fun us hl => (match us, hl with | [_, _], _ => rfl), ⟨gaBadButton, ggBadButton, eCBadButton, hCBadButton⟩⟩
  have XNotDue : XCls K CNotDue ["number"] := ⟨⟨⟨_, _, _, _, _, _, _, _, _, _, _, _, _, _, _, xNotDue, rfl⟩, saNotDue, eCNotDue, tCNotDue, kCNotDue⟩, mCNotDue, sCNotDue, vCNotDue, fun f hf => by
    simp only [List.mem_cons, List.not_mem_nil, or_false] at hf
    subst hf; exact n0NotDue⟩
  have INotDue : XInit K l.prog mg "NotDue.__init__" sNotDue CNotDue gNotDue _ := ⟨⟨ccNotDue, cdaNotDue, _, _, _, _, _, _, _, _, _, _, _, _, _, _, _, _, _, _, _, _, rfl, lNotDue, cNotDue, eNotDue, oNotDue, vNotDue, wNotDue, xNotDue, rfl⟩, htop, PySem.W.mg_none_of X G z_super, hno, iNotDue, tiNotDue⟩
  have SNotDue : Cs K l.prog mg "NotDue" "NotDue.__init__" sNotDue ["number"] CNotDue gNotDue _ := ⟨XNotDue, INotDue, PySem.W.mg_of X G aNotDue, fun _ _ => Binds.all fun us hl => (match us, hl with | [_, _], _ => rfl), ⟨gaNotDue, ggNotDue, eCNotDue, hCNotDue⟩⟩
  have XBadImport : XCls K CBadImport ["line", "why"] := ⟨⟨⟨_, _, _, _, _, _, _, _, _, _, _, _, _, _, _, xBadImport, rfl⟩, saBadImport, eCBadImport, tCBadImport, kCBadImport⟩, mCBadImport, sCBadImport, vCBadImport, fun f hf => by
    simp only [List.mem_cons, List.not_mem_nil, or_false] at hf
    rcases hf with hf | hf <;> subst hf
    · exact n0BadImport
    · exact n1BadImport⟩
  have IBadImport : XInit K l.prog mg "BadImport.__init__" sBadImport CBadImport gBadImport _ := ⟨⟨ccBadImport, cdaBadImport, _, _, _, _, _, _, _, _, _, _, _, _, _, _, _, _, _, _, _, _, rfl, lBadImport, cBadImport, eBadImport, oBadImport, vBadImport, wBadImport, xBadImport, rfl⟩, htop, PySem.W.mg_none_of X G z_super, hno, iBadImport, tiBadImport⟩
  have SBadImport : Cs K l.prog mg "BadImport" "BadImport.__init__" sBadImport ["line", "why"] CBadImport gBadImport _ := ⟨XBadImport, IBadImport, PySem.W.mg_of X G aBadImport, fun _ _ => Binds.all fun us hl => (match us, hl with | [_, _, _], _ => rfl), ⟨gaBadImport, ggBadImport, eCBadImport, hCBadImport⟩⟩
  exact ⟨PySem.W.fnOf "law" "law" (defArgs sLaw) (defBody sLaw) (defScope sLaw) .none kV4 dc4 pm4 an4 cd4 ct4, fun s v => .of_eq rfl, fun base _ _ => ok_law F4 T ⟨F1, F2, F3, PySem.W.mg_of X G a1, PySem.W.mg_of X G a2, PySem.W.mg_of X G a3, b1, b2, b3⟩ SBadTemplate SBadMoment SBadButton SNotDue SBadImport ⟨y_hc, gaBadTemplate, ggBadTemplate, eCBadTemplate, y_ha, y_hn, y_ht, y_hm⟩ (PySem.W.mg_of X G aCE) y_i1 y_i2 (PySem.W.mg_none_of X G z_isinstance) (PySem.W.mg_none_of X G z_ValueError)⟩
theorem walk {l : PySem.W.OpenLaw} {q : Program} {loose : List Str} {XP : (Str → Option Value) → Heap → Prop} {YP : World → Heap → Prop} {d : DefRec} {K : Params → PySem.W.Frag} (hn : l.most = some 63) (hdf : d.params.defaults = [])
    (hY : ∀ (w : World) (h : Heap), YP w h → (K w.params).In h)
    (F : ∀ (w : World) (mg : Str → Option Value) (fa : Addr) (h : Heap), (K w.params).In h → h.Ns mainGlobals mg → mg d.name = some (.ref fa) →
      ∃ fd : FuncData, (∀ (s : Shared) (u : Value), BindsTo s fd ⟨[u], []⟩ [("script", u)]) ∧ ∀ base : Heap, (K w.params).In base → base.Ns mainGlobals mg → FnOk l.prog w (K w.params) mg base CX0 4 fa fd ["script"] (spLaw (K w.params))) :
    PySem.W.WalkO q loose XP YP l.row.toRowW d [] (fun f vs => PySem.call f vs) :=
  L2.walk_of (n := 63) (k := 4) (x := "script") (CX := fun _ => CX0) (sp := fun w => spLaw (K w.params)) hn (by decide) hdf ⟨rfl, by decide, by decide⟩ hY F (fun _ _ a ns hl _ hS => ⟨a, ns, rfl, hS, hl, fun _ => rfl⟩) fun _ _ _ _ _ z => z
end Lw
open PySem PySem.W PyProof.Rows
set_option maxRecDepth 100000 in
set_option maxHeartbeats 0 in
theorem PySem.Challenge.cw_recallrow_k00_errors_holds : PySem.Challenge.rw_recallrow_k00_errors.Holds := by
  w_on; o_law; k_head; (case hw => w_witness2)
  k_fill
  refine Lw.walk (l := PySem.Challenge.rw_recallrow_k00_errors) rfl rfl (fun w h Y => PySem.W.kIn_of Y) ?F
  case F =>
    intro w mg fa h KX G hmg
    refine' Lw.all_mk KX G hmg ?a1 ?l1 ?c1 ?k1 ?a2 ?l2 ?c2 ?k2 ?a3 ?l3 ?c3 ?k3 ?a4 ?l4 ?c4 ?k4 ?z_len ?z_range ?z_int ?z_super ?z_isinstance ?z_ValueError ?aCE ?hno ?htop ?aBadTemplate ?xBadTemplate ?saBadTemplate ?gaBadTemplate ?ggBadTemplate ?iBadTemplate ?tiBadTemplate ?lBadTemplate ?cBadTemplate ?eBadTemplate ?oBadTemplate ?vBadTemplate ?wBadTemplate ?kCBadTemplate ?eCBadTemplate ?vCBadTemplate ?tCBadTemplate ?hCBadTemplate ?mCBadTemplate ?sCBadTemplate ?n0BadTemplate ?n1BadTemplate ?aBadMoment ?xBadMoment ?saBadMoment ?gaBadMoment ?ggBadMoment ?iBadMoment ?tiBadMoment ?lBadMoment ?cBadMoment ?eBadMoment ?oBadMoment ?vBadMoment ?wBadMoment ?kCBadMoment ?eCBadMoment ?vCBadMoment ?tCBadMoment ?hCBadMoment ?mCBadMoment ?sCBadMoment ?n0BadMoment ?n1BadMoment ?aBadButton ?xBadButton ?saBadButton ?gaBadButton ?ggBadButton ?iBadButton ?tiBadButton ?lBadButton ?cBadButton ?eBadButton ?oBadButton ?vBadButton ?wBadButton ?kCBadButton ?eCBadButton ?vCBadButton ?tCBadButton ?hCBadButton ?mCBadButton ?sCBadButton ?n0BadButton ?aNotDue ?xNotDue ?saNotDue ?gaNotDue ?ggNotDue ?iNotDue ?tiNotDue ?lNotDue ?cNotDue ?eNotDue ?oNotDue ?vNotDue ?wNotDue ?kCNotDue ?eCNotDue ?vCNotDue ?tCNotDue ?hCNotDue ?mCNotDue ?sCNotDue ?n0NotDue ?aBadImport ?xBadImport ?saBadImport ?gaBadImport ?ggBadImport ?iBadImport ?tiBadImport ?lBadImport ?cBadImport ?eBadImport ?oBadImport ?vBadImport ?wBadImport ?kCBadImport ?eCBadImport ?vCBadImport ?tCBadImport ?hCBadImport ?mCBadImport ?sCBadImport ?n0BadImport ?n1BadImport ?y_hc ?y_ha ?y_hn ?y_ht ?y_hm ?y_i1 ?y_i2
    (case a1 => first | k_is)
    (case l1 => first | k_is)
    (case c1 => first | k_is)
    (case k1 => first | k_is)
    (case a2 => first | k_is)
    (case l2 => first | k_is)
    (case c2 => first | k_is)
    (case k2 => first | k_is)
    (case a3 => first | k_is)
    (case l3 => first | k_is)
    (case c3 => first | k_is)
    (case k3 => first | k_is)
    (case a4 => first | k_is)
    (case l4 => first | k_is)
    (case c4 => first | k_is)
    (case k4 => first | k_is)
    (case z_len => first | k_is)
    (case z_range => first | k_is)
    (case z_int => first | k_is)
    (case z_super => first | k_is)
    (case z_isinstance => first | k_is)
    (case z_ValueError => first | k_is)
    (case aCE => first | k_is)
    (case hno => first | k_is)
    (case htop => first | rfl)
    (case aBadTemplate => first | k_is)
    (case xBadTemplate => first | k_is)
    (case saBadTemplate => first | k_is)
    (case gaBadTemplate => first | k_is)
    (case ggBadTemplate => first | k_is)
    (case iBadTemplate => first | k_is)
    (case tiBadTemplate => first | k_is)
    (case lBadTemplate => first | k_is)
    (case cBadTemplate => first | k_is)
    (case eBadTemplate => first | k_is)
    (case oBadTemplate => first | k_is)
    (case vBadTemplate => first | rfl)
    (case wBadTemplate => first | first | rfl | decide +kernel)
    (case kCBadTemplate => first | k_is)
    (case eCBadTemplate => first | k_is)
    (case vCBadTemplate => first | k_is)
    (case tCBadTemplate => first | k_is)
    (case hCBadTemplate => first | k_is)
    (case mCBadTemplate => first | k_is)
    (case sCBadTemplate => first | ks_is)
    (case n0BadTemplate => first | k_is)
    (case n1BadTemplate => first | k_is)
    (case aBadMoment => first | k_is)
    (case xBadMoment => first | k_is)
    (case saBadMoment => first | k_is)
    (case gaBadMoment => first | k_is)
    (case ggBadMoment => first | k_is)
    (case iBadMoment => first | k_is)
    (case tiBadMoment => first | k_is)
    (case lBadMoment => first | k_is)
    (case cBadMoment => first | k_is)
    (case eBadMoment => first | k_is)
    (case oBadMoment => first | k_is)
    (case vBadMoment => first | rfl)
    (case wBadMoment => first | first | rfl | decide +kernel)
    (case kCBadMoment => first | k_is)
    (case eCBadMoment => first | k_is)
    (case vCBadMoment => first | k_is)
    (case tCBadMoment => first | k_is)
    (case hCBadMoment => first | k_is)
    (case mCBadMoment => first | k_is)
    (case sCBadMoment => first | ks_is)
    (case n0BadMoment => first | k_is)
    (case n1BadMoment => first | k_is)
    (case aBadButton => first | k_is)
    (case xBadButton => first | k_is)
    (case saBadButton => first | k_is)
    (case gaBadButton => first | k_is)
    (case ggBadButton => first | k_is)
    (case iBadButton => first | k_is)
    (case tiBadButton => first | k_is)
    (case lBadButton => first | k_is)
    (case cBadButton => first | k_is)
    (case eBadButton => first | k_is)
    (case oBadButton => first | k_is)
    (case vBadButton => first | rfl)
    (case wBadButton => first | first | rfl | decide +kernel)
    (case kCBadButton => first | k_is)
    (case eCBadButton => first | k_is)
    (case vCBadButton => first | k_is)
    (case tCBadButton => first | k_is)
    (case hCBadButton => first | k_is)
    (case mCBadButton => first | k_is)
    (case sCBadButton => first | ks_is)
    (case n0BadButton => first | k_is)
    (case aNotDue => first | k_is)
    (case xNotDue => first | k_is)
    (case saNotDue => first | k_is)
    (case gaNotDue => first | k_is)
    (case ggNotDue => first | k_is)
    (case iNotDue => first | k_is)
    (case tiNotDue => first | k_is)
    (case lNotDue => first | k_is)
    (case cNotDue => first | k_is)
    (case eNotDue => first | k_is)
    (case oNotDue => first | k_is)
    (case vNotDue => first | rfl)
    (case wNotDue => first | first | rfl | decide +kernel)
    (case kCNotDue => first | k_is)
    (case eCNotDue => first | k_is)
    (case vCNotDue => first | k_is)
    (case tCNotDue => first | k_is)
    (case hCNotDue => first | k_is)
    (case mCNotDue => first | k_is)
    (case sCNotDue => first | ks_is)
    (case n0NotDue => first | k_is)
    (case aBadImport => first | k_is)
    (case xBadImport => first | k_is)
    (case saBadImport => first | k_is)
    (case gaBadImport => first | k_is)
    (case ggBadImport => first | k_is)
    (case iBadImport => first | k_is)
    (case tiBadImport => first | k_is)
    (case lBadImport => first | k_is)
    (case cBadImport => first | k_is)
    (case eBadImport => first | k_is)
    (case oBadImport => first | k_is)
    (case vBadImport => first | rfl)
    (case wBadImport => first | first | rfl | decide +kernel)
    (case kCBadImport => first | k_is)
    (case eCBadImport => first | k_is)
    (case vCBadImport => first | k_is)
    (case tCBadImport => first | k_is)
    (case hCBadImport => first | k_is)
    (case mCBadImport => first | k_is)
    (case sCBadImport => first | ks_is)
    (case n0BadImport => first | k_is)
    (case n1BadImport => first | k_is)
    (case y_hc => first | first | k_is | rfl | kernel_rfl)
    (case y_ha => first | k_is)
    (case y_hn => first | k_is)
    (case y_ht => first | k_is)
    (case y_hm => first | k_is)
    (case y_i1 => first | kit_is | kernel_rfl)
    (case y_i2 => first | kit_is | kernel_rfl)
