/-
  THE ABSTRACT INTERPRETER: an operation: what 'evOp' comes to, the model's operation comes to, on every schedule.
-/
import Derived.Test.YtilmoifpikljhaaGreatDoorA4
import Derived.Scope
import Derived.RangeFuncLeaves
import Derived.LoopNIn
import Derived.RangeFuncOwn
set_option linter.unusedVariables false
set_option linter.unusedSimpArgs false
namespace Go.Ai
open Go

/-- The fence that lets all through; in a round of the loop ro. -/
def Wd (ro : Option Nat) : Fence := { fn := fun _ => True, depth := none, alive := false, round := ro }
/-- What a call comes to. -/
def CallPost (C : Ctx) (β : Be) (h : Heap) (w : World) (v : AV) (h' : Heap) (e : Ending) (w' : World) : Prop :=
  ∃ β' x, e = .returned x ∧ VRel β' v x ∧ HRel C β' h' w' ∧ Ext β h w β' h' w'
/-- What is known of calls: functions, and rounds of loops over iterators. -/
structure RecOk (C : Ctx) (rec : Rec) : Prop where
  fn : ∀ f args h v h' β w (args' : Array Value), rec (.fn f) args h = some (v, h') → HRel C β h w → VRels β args args'.toList →
    (∃ fn, C.P.funcs[f]? = some fn ∧ fn.body.isSome = true ∧ fn.name ≠ "runtime.NumGoroutine") ∧ CallsIn (Wd none) 0 C.P f args' w (CallPost C β h w v h')
  round : ∀ l args h v h' β w (args' : Array Value) p, rec (.round l) args h = some (v, h') → β l = some p → HRel C β h w → VRels β args args'.toList →
    ∃ f tmps asg body, (Instr.yield p.b args').run C.P w = .ok (.round p.b f tmps asg body) w ∧ RoundIn (Wd none) 0 C.P p.b f tmps asg body w (CallPost C β h w v h')
  call : ∀ f args h v h' β w (args' : Array Value), rec (.call f) args h = some (v, h') → HRel C β h w → VRels β args args'.toList →
    (∃ x w', (callFunc f args').run C.P w = .ok (.value x) w' ∧ CallPost C β h w v h' (.returned x) w') ∨
    ((∃ fn, C.P.funcs[f]? = some fn ∧ fn.body.isSome = true ∧ fn.name ≠ "runtime.NumGoroutine") ∧ CallsIn (Wd none) 0 C.P f args' w (CallPost C β h w v h'))

section
variable {R : Type} {out : R} {C : Ctx} {β : Be} {h : Heap} {w : World} {k : AV → Heap → Option R} {ro : Option Nat} {o : Oper} {a : Act} {nx : Act → World → Prop} {Q : Exit → Act → World → Prop} {rec : Rec} {tm : List AV}
theorem evX_rel (r : HRel C β h w) (ht : TRel β tm a.tmps) (x : Operand) : VRel β (evX C.P tm x) (a.eval x) := by
  cases x with
  | tmp t => exact ht.2 t
  | const v => exact ofV_rel v
  | global g =>
    simp only [evX, Act.eval]
    cases hb : kg C.P g
    · simp [VRel]
    · obtain ⟨n, hn⟩ := r.glob g hb
      simp only [cond_true, VRel]
      exact ⟨_, hn, by simp⟩
  | func f => simp only [evX, Act.eval, VRel]; exact ⟨#[], #[], rfl, VRels.nil, VRels.nil⟩
theorem val_ok {x : Value} {w' : World} (hop : ∀ c, o.op ≠ .defer c) (hrun : (execOp a.eval o).run C.P w = .ok (.value x) w') (hd : Done C β h w k out x w')
    (H : ∀ x w', Done C β h w k out x w' → nx (a.put o.dst x) w') : o.wpIn (Wd ro) 0 C.P a w nx Q :=
  ⟨fun _ _ => trivial, by rw [Oper.semAt_eq _ _ _ hop, hrun]; exact H x w' hd⟩
theorem skip_ok {w' : World} (hop : ∀ c, o.op ≠ .defer c) (hrun : (execOp a.eval o).run C.P w = .ok .skip w') (hd : Done C β h w k out Go.undef w')
    (H : ∀ x w', Done C β h w k out x w' → nx (a.put o.dst x) w') : o.wpIn (Wd ro) 0 C.P a w nx Q :=
  ⟨fun _ _ => trivial, by rw [Oper.semAt_eq _ _ _ hop, hrun]; exact H Go.undef w' hd⟩
theorem bnd_inv {o : Option (AV × Heap)} (e : bnd o k = some out) : ∃ v h', o = some (v, h') ∧ k v h' = some out := by
  unfold bnd at e
  split at e
  · exact ⟨_, _, rfl, e⟩
  · cases e
/-- a call of a function value -/
theorem call_ok {c : Call} {cf : Operand} {dst : Option Tmp} {ty : TypeId} {pos : String} {after : Array Edge} {gd : Option (Nat × Bool)} (hrec : RecOk C rec) (r : HRel C β h w) (hx : ∀ x, VRel β (evX C.P tm x) (a.eval x)) (hc : c.callee = .value cf)
    (e : callv rec (evX C.P tm cf) (c.args.toList.map (evX C.P tm)) h k = some out) (H : ∀ x w', Done C β h w k out x w' → nx (a.put dst x) w') :
    (Oper.mk dst (.call c) ty pos after gd).wpIn (Wd ro) 0 C.P a w nx Q := by
  have hargs : VRels β (c.args.toList.map (evX C.P tm)) (c.args.toList.map a.eval) := VRels.map _ _ hx _
  refine ⟨fun _ _ => trivial, ?_⟩
  rw [Oper.semAt_eq _ _ _ (by simp)]
  unfold callv at e
  split at e
  · rename_i f fa ca hf
    obtain ⟨v, h', e1, e2⟩ := bnd_inv e
    have hfv := hx cf
    rw [hf] at hfv
    simp only [VRel] at hfv
    obtain ⟨x, y, hev, h1, h2⟩ := hfv
    have hall : VRels β (fa ++ (c.args.toList.map (evX C.P tm) ++ ca)) (x ++ (c.args.map a.eval) ++ y).toList := by
      simp only [Array.toList_append, Array.toList_map, List.append_assoc]
      exact h1.append (hargs.append h2)
    have hinv : (execOp a.eval (Oper.mk dst (.call c) ty pos after gd)).run C.P w = (callFunc f (x ++ (c.args.map a.eval) ++ y)).run C.P w := by
      simp [execOp, resolve, hc, hev, Deferred.ofValue, invoke]
    rw [hinv]
    rcases hrec.call f _ h v h' β w (x ++ (c.args.map a.eval) ++ y) e1 r hall with ⟨x', w', hrun, β', x2, hx2, hv, hr, he⟩ | ⟨⟨fn, hfn, hbody, hname⟩, hcall⟩
    · cases hx2
      rw [hrun]
      exact H x' w' ⟨β', v, h', e2, hv, hr, he⟩
    · have hrun : (callFunc f (x ++ (c.args.map a.eval) ++ y)).run C.P w = .ok (.enter f (x ++ (c.args.map a.eval) ++ y)) w := by
        obtain ⟨bd, hb⟩ := Option.isSome_iff_exists.1 hbody
        simp [callFunc, hfn, hb, hname]
      rw [hrun]
      refine ⟨fun hh => by simp [Wd] at hh, ?_⟩
      refine (show CallsIn (Wd ro) 0 C.P f (x ++ (c.args.map a.eval) ++ y) w (CallPost C β h w v h') from hcall).mono ?_
      rintro e w' ⟨β', x', rfl, hv, hr, he⟩
      exact H x' w' ⟨β', v, h', e2, hv, hr, he⟩
  · rename_i l hf
    obtain ⟨v, h', e1, e2⟩ := bnd_inv e
    have hfv := hx cf
    rw [hf] at hfv
    simp only [VRel] at hfv
    obtain ⟨p, hp, hev⟩ := hfv
    obtain ⟨f, tmps, asg, body, hy, hround⟩ := hrec.round l _ h v h' β w (c.args.map a.eval) p e1 hp r (by simpa using hargs)
    have hrun : (execOp a.eval (Oper.mk dst (.call c) ty pos after gd)).run C.P w = .ok (.round p.b f tmps asg body) w := by
      simp [execOp, resolve, hc, hev, Deferred.ofValue, invoke, hy]
    rw [hrun]
    refine ⟨fun hh => by simp [Wd] at hh, ?_⟩
    refine (show RoundIn (Wd ro) 0 C.P p.b f tmps asg body w (CallPost C β h w v h') from hround).mono ?_
    rintro e w' ⟨β', x', rfl, hv, hr, he⟩
    exact H x' w' ⟨β', v, h', e2, hv, hr, he⟩
  · cases e
theorem map_one {γ δ : Type} {f : γ → δ} {l : List γ} {x : δ} (e : l.map f = [x]) : ∃ a, l = [a] ∧ f a = x := by
  cases l with
  | nil => simp at e
  | cons a l => cases l with
    | nil => exact ⟨a, rfl, by simpa using e⟩
    | cons _ _ => simp at e
theorem map_two {γ δ : Type} {f : γ → δ} {l : List γ} {x y : δ} (e : l.map f = [x, y]) : ∃ a b, l = [a, b] ∧ f a = x ∧ f b = y := by
  cases l with
  | nil => simp at e
  | cons a l =>
    simp only [List.map_cons, List.cons.injEq] at e
    obtain ⟨b, rfl, hb⟩ := map_one e.2
    exact ⟨a, b, rfl, e.1, hb⟩
/-- THE BUILT-INS. -/
theorem evB_ok {b : Builtin} {ts : Array TypeId} {ty : TypeId} {args : Array Operand} {cs : Array Bool} (r : HRel C β h w) (hx : ∀ x, VRel β (evX C.P tm x) (a.eval x))
    (e : evB C.P b ts.toList (args.toList.map (evX C.P tm)) h k = some out) : ∃ x w', (builtin b ts ty cs (args.map a.eval)).run C.P w = .ok (.value x) w' ∧ Done C β h w k out x w' := by
  have hal : args.map a.eval = ((args.toList.map a.eval)).toArray := by apply Array.ext'; simp
  rw [hal]
  generalize hTs : ts.toList = tl at e
  have hts : ts = tl.toArray := by apply Array.ext'; simp [hTs]
  rw [hts]
  clear hal hts hTs
  generalize args.toList = al at e ⊢
  have lift : ∀ {s : Sem Value} {x : Value} {w' : World}, s.run C.P w = .ok x w' → (do pure (Next.value (← s)) : Sem Next).run C.P w = .ok (.value x) w' := by
    intro s x w' hs; simp [hs]
  unfold evB at e
  split at e
  · -- len
    rename_i b' ts' as' t rest x heq
    have hal : ∃ y, al = [y] ∧ evX C.P tm y = x := by
      cases al with
      | nil => simp at heq
      | cons y l => cases l with
        | nil => exact ⟨y, rfl, by simpa using heq⟩
        | cons _ _ => simp at heq
    obtain ⟨y, rfl, rfl⟩ := hal
    have hv := hx y
    simp only [builtin, List.map_cons, List.map_nil]
    split at e
    · rename_i el ht
      unfold lenS at e
      split at e
      · obtain ⟨p, _, ad, m, he, _⟩ := slice_inv (by rename_i hh; rw [hh] at hv; exact hv)
        exact ⟨_, w, lift (by simp [Builtin.len_, run_underlying ht, he, goInt]; rfl), done_same r e (by simp [VRel])⟩
      · rename_i hh
        rw [hh] at hv
        simp only [VRel] at hv
        exact ⟨_, w, lift (by simp [Builtin.len_, run_underlying ht, hv, goInt]; rfl), done_same r e (by simp [VRel])⟩
      · cases e
    · rename_i ht
      unfold lenT at e
      split at e
      · rename_i s hh
        rw [hh] at hv
        obtain ⟨s', he, rfl⟩ := str_inv hv
        exact ⟨.int .i64 s'.size, w, lift (by simp [Builtin.len_, run_underlying ht, he, goInt]), done_same r e (by simp [VRel])⟩
      · cases e
    · rename_i n el ht
      exact ⟨.int .i64 n, w, lift (by simp [Builtin.len_, run_underlying ht, goInt]), done_same r e (by simp [VRel])⟩
    · rename_i q el ht
      obtain ⟨z, hz, hd⟩ := mln_ok (ty := ty) (ts := rest) r ht hv e
      exact ⟨z, w, lift hz, hd⟩
    · rename_i pa ht
      split at e
      · rename_i n el ht2
        exact ⟨.int .i64 n, w, lift (by simp [Builtin.len_, run_underlying ht, run_underlying ht2, goInt]), done_same r e (by simp [VRel])⟩
      · cases e
    · cases e
  · -- append
    rename_i b' ts' as' t u rest s x heq
    obtain ⟨y1, y2, rfl, rfl, rfl⟩ := map_two heq
    have key : ∀ (el : TypeId) (d : TypeDesc), C.P.underlying t = some (.slice el) → C.P.underlying u = some d → (∀ q, d ≠ .int q) →
        (bif Nat.blt 0 (szOf C.P el) then (match zeroT C.P el with | some z => bif Nat.beq z.length (szOf C.P el) then app (szOf C.P el) (byOf C.P el) h (evX C.P tm y1) (evX C.P tm y2) k else none | none => none) else none) = some out →
        ∃ x w', (builtin .append (t :: u :: rest).toArray ty cs (List.map a.eval [y1, y2]).toArray).run C.P w = .ok (.value x) w' ∧ Done C β h w k out x w' := by
      intro el d ht hu hd e
      have e1 := bif_inv e
      clear e
      obtain ⟨hs, e⟩ := e1
      split at e
      · rename_i z hz
        have e1 := bif_inv e
        clear e
        obtain ⟨hzl, e⟩ := e1
        have hzl := beq_eq hzl
        obtain ⟨info, zv, hi, hzv, hcz, hzr⟩ := zeroT_run hz
        have hzrel : VRels β z zv.cells.toList := cellsOf_rel (ofV_rel zv) hcz
        obtain ⟨y, w', hrun, hdn⟩ := app_ok (ty := ty) r ht hu hd hs ⟨info, hi, hzv⟩ (by have := hzrel.length; simp at this; omega) (hx y1) (hx y2) e
        refine ⟨y, w', ?_, hdn⟩
        have hrun2 : (Builtin.append_ (t :: u :: rest).toArray ty (List.map a.eval [y1, y2]).toArray).run C.P w = .ok y w' := by
          have : Builtin.append_ (t :: u :: rest).toArray ty (List.map a.eval [y1, y2]).toArray = Builtin.append_ #[t, u] ty #[a.eval y1, a.eval y2] := by
            unfold Builtin.append_
            simp
          rw [this]; exact hrun
        exact lift hrun2
      · cases e
    split at e
    · rename_i el el2 ht hu; exact key el _ ht hu (by simp) e
    · rename_i el ht hu; exact key el _ ht hu (by simp) e
    · cases e
  · -- copy
    rename_i b' ts' as' t rest s x heq
    obtain ⟨y1, y2, rfl, rfl, rfl⟩ := map_two heq
    split at e
    · rename_i el ht
      have e1 := bif_inv e
      clear e
      obtain ⟨hs, e⟩ := e1
      obtain ⟨y, w', hrun, hdn⟩ := cpy_ok (ty := ty) (ts := rest) r ht hs (hx y1) (hx y2) e
      exact ⟨y, w', lift hrun, hdn⟩
    · cases e
  · -- clear
    rename_i b' ts' as' t rest x heq
    obtain ⟨y1, rfl, rfl⟩ := map_one heq
    split at e
    · rename_i el ht
      split at e
      · rename_i z hz
        have e1 := bif_inv e
        clear e
        obtain ⟨hs, e⟩ := e1
        have e1 := bif_inv e
        clear e
        obtain ⟨hzl, e⟩ := e1
        obtain ⟨info, zv, hi, hzv, hcz, hzr⟩ := zeroT_run hz
        obtain ⟨w', hrun, hdn⟩ := clr_ok (ty := ty) (ts := rest) r ht hs hzr (cellsOf_rel (ofV_rel zv) hcz) (beq_eq hzl) (hx y1) e
        exact ⟨_, w', lift hrun, hdn⟩
      · cases e
    · cases e
  · -- delete
    rename_i b' ts' as' t rest m x heq
    obtain ⟨y1, y2, rfl, rfl, rfl⟩ := map_two heq
    split at e
    · rename_i q el ht
      split at e
      · rename_i kd hk
        obtain ⟨w', hrun, hdn⟩ := mdl_ok (ty := ty) (ts := rest) r ht hk (hx y1) (hx y2) e
        exact ⟨_, w', lift hrun, hdn⟩
      · cases e
    · cases e
  · -- min
    rename_i b' ts' as' x y heq
    obtain ⟨y1, y2, rfl, rfl, rfl⟩ := map_two heq
    obtain ⟨z, hz, hdn⟩ := mm_ok (ty := ty) r (hx y1) (hx y2) e
    exact ⟨z, w, lift (by simpa using hz), hdn⟩
  · -- max
    rename_i b' ts' as' x y heq
    obtain ⟨y1, y2, rfl, rfl, rfl⟩ := map_two heq
    obtain ⟨z, hz, hdn⟩ := mm_ok (ty := ty) r (hx y1) (hx y2) e
    exact ⟨z, w, lift (by simpa using hz), hdn⟩
  · cases e
end
end Go.Ai
/-
  THE ABSTRACT INTERPRETER: every operation.
-/
namespace Go.Ai
open Go

section
variable {R : Type} {out : R} {C : Ctx} {β : Be} {h : Heap} {w : World} {k : AV → Heap → Option R} {ro : Option Nat} {a : Act} {nx : Act → World → Prop} {Q : Exit → Act → World → Prop} {rec : Rec} {tm : List AV}
theorem orelV (hx : ∀ x, VRel β (evX C.P tm x) (a.eval x)) (o : Option Operand) : ORelV β (o.map (evX C.P tm)) (o.map a.eval) := by
  cases o with
  | none => trivial
  | some x => exact hx x
theorem evOp_ok (hrec : RecOk C rec) (o : Oper) (r : HRel C β h w) (ht : TRel β tm a.tmps) (e : evOp C.P rec tm o.op h k = some out)
    (H : ∀ x w', Done C β h w k out x w' → nx (a.put o.dst x) w') : o.wpIn (Wd ro) 0 C.P a w nx Q := by
  have hx := evX_rel r ht
  have vl : ∀ {x : Value} {w' : World}, (∀ c, o.op ≠ .defer c) → (execOp a.eval o).run C.P w = .ok (.value x) w' → Done C β h w k out x w' → o.wpIn (Wd ro) 0 C.P a w nx Q := fun h1 h2 h3 => val_ok h1 h2 h3 H
  have sk : ∀ {w' : World}, (∀ c, o.op ≠ .defer c) → (execOp a.eval o).run C.P w = .ok .skip w' → Done C β h w k out Go.undef w' → o.wpIn (Wd ro) 0 C.P a w nx Q := fun h1 h2 h3 => skip_ok h1 h2 h3 H
  have lift : ∀ {s : Sem Value} {x : Value} {w' : World}, s.run C.P w = .ok x w' → (do pure (Next.value (← s)) : Sem Next).run C.P w = .ok (.value x) w' := by
    intro s x w' hs; simp [hs]
  have liftu : ∀ {s : Sem Unit} {w' : World}, s.run C.P w = .ok () w' → (do s; pure Next.skip : Sem Next).run C.P w = .ok .skip w' := by
    intro s w' hs; simp [hs]
  obtain ⟨dst, op, ty, pos, after, gd⟩ := o
  cases op <;> simp only [evOp] at e <;> (try cases e; done)
  case move x => exact vl (by simp) (by simp [execOp]) (done_same r e (hx x))
  case assign x => exact vl (by simp) (by simp [execOp]) (done_same r e (hx x))
  case pick c x y =>
    unfold pickB at e
    split at e
    · rename_i b hb
      have hc := hx c
      rw [hb] at hc
      have hc := bool_inv hc
      refine vl (x := if b then a.eval x else a.eval y) (w' := w) (by simp) (by simp [execOp, hc, asBool]) (done_same r e ?_)
      cases b
      · simpa using hx y
      · simpa using hx x
    · cases e
  case alloc el =>
    split at e
    · rename_i z hz
      obtain ⟨info, zv, hi, hzv, hcz, hzr⟩ := zeroT_run hz
      obtain ⟨w', hw, hd⟩ := mk_ok el r (cellsOf_rel (ofV_rel zv) hcz) e
      refine vl (by simp) (lift (s := Instr.alloc el true (.tuple #[])) ?_) hd
      have hw' : (newRow el zv.cells).run C.P w = .ok ⟨w.heap.size, 0, none⟩ w' := by simpa using hw
      simp [Instr.alloc, hzr, newVar, hw']
    · cases e
  case box el x =>
    have e1 := getL_inv e
    clear e
    obtain ⟨cs, hc, e⟩ := e1
    obtain ⟨w', hw, hd⟩ := mk_ok el r (cellsOf_rel (hx x) hc) e
    refine vl (by simp) (lift (s := Instr.box el (a.eval x)) ?_) hd
    have hw' : (newRow el (a.eval x).cells).run C.P w = .ok ⟨w.heap.size, 0, none⟩ w' := by simpa using hw
    simp [Instr.box, newVar, hw']
  case build t parts =>
    split at e
    · rename_i z hz
      split at e
      · rename_i fs hu
        have e1 := bif_inv e
        clear e
        obtain ⟨hf, e⟩ := e1
        obtain ⟨y, hy, hd⟩ := build_struct_ok r hx hu hz hf e
        exact vl (by simp) (lift hy) hd
      · rename_i n el hu
        have e1 := bif_inv e
        clear e
        obtain ⟨hf, e⟩ := e1
        obtain ⟨y, hy, hd⟩ := build_array_ok r hx hu hz hf e
        exact vl (by simp) (lift hy) hd
      · cases e
    · cases e
  case buildSlice t n parts =>
    split at e
    · rename_i el hu
      split at e
      · rename_i z hz
        have e1 := bif_inv e
        clear e
        obtain ⟨h1, e⟩ := e1
        have e1 := bif_inv e
        clear e
        obtain ⟨h2, e⟩ := e1
        have e1 := bif_inv e
        clear e
        obtain ⟨h3, e⟩ := e1
        obtain ⟨y, w', hy, hd⟩ := buildSlice_ok r hx hu hz h1 (beq_eq h2) (ble_le h3) e
        exact vl (by simp) (lift hy) hd
      · cases e
    · cases e
  case load t x =>
    obtain ⟨y, hy, hd⟩ := loadAt_ok r (hx x) e
    exact vl (by simp) (lift hy) hd
  case store t x y =>
    obtain ⟨w', hy, hd⟩ := storeAt_ok r (hx x) (hx y) e
    exact sk (by simp) (liftu hy) hd
  case nilCheck x =>
    have hn := nil_ok (hx x) e
    have hv := nil_val e
    refine vl (x := a.eval x) (w' := w) (by simp) ?_ (done_same r hv (hx x))
    rcases hn with ⟨b, hb⟩ | ⟨f, b, c, hb⟩ | ⟨l, hb⟩ <;> simp [execOp, hb]
  case binOp op t x y yt =>
    have hgen : ∀ {s : Sem Value}, s = (do eqGuard op t x y (a.eval x) (a.eval y); binOp op t (a.eval x) (a.eval y)) → ∀ {v : Value}, s.run C.P w = .ok v w → (execOp a.eval (Oper.mk dst (.binOp op t x y yt) ty pos after gd)).run C.P w = .ok (.value v) w := by
      rintro s rfl v hs
      exact lift hs
    have plain : op ≠ .eql → op ≠ .neq → ∀ {v : Value}, (binOp op t (a.eval x) (a.eval y)).run C.P w = .ok v w → (do eqGuard op t x y (a.eval x) (a.eval y); binOp op t (a.eval x) (a.eval y) : Sem Value).run C.P w = .ok v w := by
      intro h1 h2 v hs
      have hg : (eqGuard op t x y (a.eval x) (a.eval y)).run C.P w = .ok () w := by
        unfold eqGuard
        cases op <;> first | exact absurd rfl h1 | exact absurd rfl h2 | rfl
      rw [Sem.run_bind, hg, Result.andThen_ok, hs]
    split at e
    · obtain ⟨b, hb, e⟩ := eqOp_ok (neg := false) (xo := x) (yo := y) w (hx x) (hx y) e
      exact vl (by simp) (hgen rfl (by simpa using hb)) (done_same r e (by simp [VRel]))
    · obtain ⟨b, hb, e⟩ := eqOp_ok (neg := true) (xo := x) (yo := y) w (hx x) (hx y) e
      exact vl (by simp) (hgen rfl (by simpa using hb)) (done_same r e (by simp [VRel]))
    · rename_i h1 h2
      have e1 := get1_inv e
      clear e
      obtain ⟨u, hu, e⟩ := e1
      obtain ⟨v, hv, hr⟩ := bin_ok (P := C.P) (t := t) w h1 h2 (hx x) (hx y) hu
      exact vl (by simp) (hgen rfl (plain h1 h2 hv)) (done_same r e hr)
  case unOp op t x =>
    have e1 := get1_inv e
    clear e
    obtain ⟨u, hu, e⟩ := e1
    obtain ⟨v, hv, hr⟩ := una_ok (P := C.P) w (hx x) hu
    exact vl (by simp) (lift hv) (done_same r e hr)
  case convert s d x =>
    split at e
    · rename_i q hd
      split at e
      · rename_i sd hs
        obtain ⟨y, hy, hdn⟩ := cvI_ok r ⟨sd, hs⟩ hd (hx x) e
        exact vl (by simp) (lift hy) hdn
      · cases e
    · rename_i hd
      split at e
      · rename_i hs
        unfold strX at e
        split at e
        · rename_i s' hs'
          have hv := hx x
          rw [hs'] at hv
          obtain ⟨t, ht, rfl⟩ := str_inv hv
          refine vl (x := a.eval x) (w' := w) (by simp) (lift ?_) (done_same r e hv)
          simp [convert, run_underlying hs, run_underlying hd, ht]
        · cases e
      · rename_i el hs
        have e1 := bif_inv e
        clear e
        obtain ⟨h1, e⟩ := e1
        obtain ⟨y, hy, hdn⟩ := txt_ok r hs hd h1 (hx x) e
        exact vl (by simp) (lift hy) hdn
      · cases e
    · cases e
  case makeFunc fn x y =>
    split at e
    · rename_i f
      refine vl (x := .func (.func f) (x.map a.eval) (y.map a.eval)) (w' := w) (by simp) (by simp [execOp, Instr.makeFunc]) (done_same r e ?_)
      simp only [VRel]
      exact ⟨_, _, rfl, by simpa using VRels.map _ _ hx x.toList, by simpa using VRels.map _ _ hx y.toList⟩
    · cases e
  case makeMap t rs =>
    split at e
    · rename_i kt et hu
      split at e
      · obtain ⟨w', hw, hd⟩ := newMap_ok r e
        refine vl (by simp) (lift (s := Instr.makeMap t none) ?_) hd
        simp only [Instr.makeMap, Sem.run_bind, hw, Result.andThen_ok, Sem.run_pure]
      · rename_i x
        unfold int? at e
        split at e
        · rename_i q n hh
          have hv := hx x
          rw [hh] at hv
          have hv := int_inv hv
          obtain ⟨w', hw, hd⟩ := newMap_ok r e
          refine vl (by simp) (lift (s := Instr.makeMap t (some (a.eval x))) ?_) hd
          simp only [Instr.makeMap, Sem.run_bind, run_underlying hu, Result.andThen_ok, hv, asInt, asIntOf, Sem.run_pure, hw]
        · cases e
    · cases e
  case makeSlice t n c =>
    split at e
    · rename_i el hu
      split at e
      · rename_i z hz
        have e1 := bif_inv e
        clear e
        obtain ⟨h1, e⟩ := e1
        have e1 := bif_inv e
        clear e
        obtain ⟨h2, e⟩ := e1
        obtain ⟨y, w', hy, hd⟩ := mks_ok r hu hz h1 (beq_eq h2) (hx n) (hx c) e
        exact vl (by simp) (lift hy) hd
      · cases e
    · cases e
  case slice t x lo hi mx =>
    split at e
    · rename_i n el hu
      have e1 := bif_inv e
      clear e
      obtain ⟨h1, e⟩ := e1
      obtain ⟨y, hy, hd⟩ := slA_ok r hu h1 (hx x) (orelV hx lo) (orelV hx hi) (orelV hx mx) e
      exact vl (by simp) (lift hy) hd
    · rename_i el hu
      have e1 := bif_inv e
      clear e
      obtain ⟨h1, e⟩ := e1
      obtain ⟨y, hy, hd⟩ := slS_ok r hu h1 (hx x) (orelV hx lo) (orelV hx hi) (orelV hx mx) e
      exact vl (by simp) (lift hy) hd
    · rename_i hu
      split at e
      · obtain ⟨y, hy, hd⟩ := slT_ok r hu (hx x) (orelV hx lo) (orelV hx hi) e
        exact vl (by simp) (lift hy) hd
      · cases e
    · cases e
  case fieldAddr s x f =>
    split at e
    · rename_i fs hu
      split at e
      · rename_i fd hf
        have e1 := bif_inv e
        clear e
        obtain ⟨h1, e⟩ := e1
        obtain ⟨y, hy, hd⟩ := fieldAt_ok r hu hf h1 (hx x) e
        exact vl (by simp) (lift hy) hd
      · cases e
    · cases e
  case field t x f =>
    split at e
    · rename_i fs hu
      split at e
      · rename_i fd hf
        obtain ⟨y, hy, hd⟩ := field_ok r hu hf (hx x) e
        exact vl (by simp) (lift hy) hd
      · cases e
    · cases e
  case indexAddr t x i =>
    split at e
    · rename_i n el hu
      have e1 := bif_inv e
      clear e
      obtain ⟨h1, e⟩ := e1
      obtain ⟨y, hy, hd⟩ := indexAt_array_ok r hu h1 (hx x) (hx i) e
      exact vl (by simp) (lift hy) hd
    · rename_i el hu
      have e1 := bif_inv e
      clear e
      obtain ⟨h1, e⟩ := e1
      obtain ⟨y, hy, hd⟩ := indexAt_slice_ok r hu h1 (hx x) (hx i) e
      exact vl (by simp) (lift hy) hd
    · cases e
  case index t x i =>
    split at e
    · rename_i n el hu
      have e1 := bif_inv e
      clear e
      obtain ⟨h1, e⟩ := e1
      obtain ⟨y, hy, hd⟩ := index_array_ok r hu h1 (hx x) (hx i) e
      exact vl (by simp) (lift hy) hd
    · rename_i hu
      obtain ⟨y, hy, hd⟩ := index_text_ok r hu (hx x) (hx i) e
      exact vl (by simp) (lift hy) hd
    · cases e
  case lookup t x i ok =>
    split at e
    · rename_i kt et hu
      split at e
      · rename_i kd info hk hi
        split at e
        · rename_i zv hz
          obtain ⟨y, hy, hd⟩ := lkp_ok r hu hk hi hz (hx x) (hx i) e
          exact vl (by simp) (lift hy) hd
        · cases e
      · cases e
    · cases e
  case mapUpdate t m i x =>
    split at e
    · rename_i kt et hu
      split at e
      · rename_i kd hk
        obtain ⟨w', hy, hd⟩ := mup_ok r hu hk (hx m) (hx i) (hx x) e
        exact sk (by simp) (liftu hy) hd
      · cases e
    · cases e
  case extract x i =>
    obtain ⟨y, hy, hd⟩ := ext_ok r (hx x) e
    exact vl (by simp) (lift hy) hd
  case call c =>
    split at e
    · rename_i cf hc
      exact call_ok hrec r hx hc e H
    · rename_i b hc
      obtain ⟨x, w', hy, hd⟩ := evB_ok (ty := ty) (cs := c.args.map fun | .const _ => true | _ => false) r hx e
      refine vl (by simp) ?_ hd
      simp only [execOp, resolve, hc, Sem.run_bind, Sem.run_pure, Result.andThen_ok, invoke]
      exact hy
    · cases e
end
end Go.Ai
/-
  THE ABSTRACT INTERPRETER: a region in the order of the text.
-/
namespace Go.Ai
open Go

section
variable {R : Type} {out : R} {C : Ctx} {β β' : Be} {h h' : Heap} {w w' : World} {ro : Option Nat} {a a' : Act} {Q : Exit → Act → World → Prop} {rec : Rec} {tm : List AV}
theorem TRel.put (r : TRel β tm a.tmps) {u : AV} {x : Value} (hv : VRel β u x) (d : Option Tmp) : TRel β (tput tm d u) (a.put d x).tmps := by
  cases d with
  | none => exact r
  | some d =>
    refine ⟨by simp [tput, tset_length, Act.put, r.1], fun i => ?_⟩
    simp only [tput, Act.put, tget_tset]
    by_cases hi : d = i ∧ d < tm.length
    · rw [if_pos hi]
      obtain ⟨rfl, hlt⟩ := hi
      rw [r.1] at hlt
      simpa [Array.getD_eq_getD_getElem?, Array.getElem?_setIfInBounds, hlt] using hv
    · rw [if_neg hi]
      have := r.2 i
      by_cases hd : d = i
      · subst hd
        have hge : ¬ d < a.tmps.size := fun hh => hi ⟨rfl, by rw [r.1]; exact hh⟩
        have e : (a.tmps.setIfInBounds d x).getD d Go.undef = a.tmps.getD d Go.undef := by
          simp [Array.getD_eq_getD_getElem?, hge]
        rw [e]; exact this
      · have e : (a.tmps.setIfInBounds d x).getD i Go.undef = a.tmps.getD i Go.undef := by
          simp [Array.getD_eq_getD_getElem?, hd]
        rw [e]; exact this
theorem put_defers (a : Act) (d : Option Tmp) (x : Value) : (a.put d x).defers = a.defers := by cases d <;> rfl
theorem put_size (a : Act) (d : Option Tmp) (x : Value) : (a.put d x).tmps.size = a.tmps.size := by cases d <;> simp [Act.put]
/-- Behind a piece of code: the rest comes to 'out' from here on. -/
def RDone (C : Ctx) (β : Be) (h : Heap) (w : World) (k : List AV → Heap → Option R) (out : R) (a₀ : Act) (a' : Act) (w' : World) : Prop :=
  ∃ β' tm' h', k tm' h' = some out ∧ HRel C β' h' w' ∧ TRel β' tm' a'.tmps ∧ Ext β h w β' h' w' ∧ a'.defers = a₀.defers ∧ a'.tmps.size = a₀.tmps.size
theorem want_ok {ops : Array Oper} {o : Oper} {x y : Option R} (r : TRel β tm a.tmps) (e : want ops o tm x y = some out) :
    (Region.wanted o (yielded ops a.tmps) = true ∧ x = some out) ∨ (Region.wanted o (yielded ops a.tmps) = false ∧ y = some out) := by
  unfold want at e
  unfold Region.wanted
  split at e
  · rename_i hg; rw [hg]; exact .inl ⟨rfl, e⟩
  · rename_i j wt hg
    rw [hg]
    simp only
    split at e
    · rename_i hd
      refine .inr ⟨?_, e⟩
      simp [yielded, hd]
    · rename_i d hd
      have hr := r.2 d
      unfold wantV at e
      split at e
      · rename_i b hb
        rw [hb] at hr
        have hr := bool_inv hr
        have hlt : a.tmps[d]? = some (.bool b) := by
          cases hh : a.tmps[d]? with
          | none => simp [Array.getD_eq_getD_getElem?, hh, Go.undef] at hr
          | some v => simp [Array.getD_eq_getD_getElem?, hh] at hr; rw [hr]
        have hy : yielded ops a.tmps j = some b := by simp [yielded, hd, hlt]
        rw [hy]
        cases wt <;> cases b <;> simp at e ⊢ <;> exact e
      · rename_i vs hb
        rw [hb] at hr
        simp only [VRel] at hr
        obtain ⟨xs, hxs, _⟩ := hr
        refine .inr ⟨?_, e⟩
        have hy : yielded ops a.tmps j = none := by
          cases hh : a.tmps[d]? with
          | none => simp [yielded, hd, hh]
          | some v =>
            have : v = .tuple xs := by simpa [Array.getD_eq_getD_getElem?, hh] using hxs
            subst this
            simp [yielded, hd, hh]
        rw [hy]; rfl
      · cases e
theorem evOps_ok (hrec : RecOk C rec) {ops : Array Oper} (k : List AV → Heap → Option R) : ∀ (n i : Nat) (tm : List AV) (β : Be) (h : Heap) (w : World) (a : Act), i + n = ops.size →
    evOps C.P rec ops (ops.toList.drop i) tm h k = some out → HRel C β h w → TRel β tm a.tmps → (∀ a' w', RDone C β h w k out a a' w' → Q .normal a' w') →
    wpOpsIn (Wd ro) 0 C.P ops Q (List.range' i n) a w
  | 0, i, tm, β, h, w, a, hn, e, r, t, H => by
    have hd : ops.toList.drop i = [] := List.drop_eq_nil_of_le (by simp; omega)
    rw [hd] at e
    simp only [List.range'_zero, wpOpsIn]
    exact H a w ⟨β, tm, h, e, r, t, Ext.refl _ _ _, rfl, rfl⟩
  | n + 1, i, tm, β, h, w, a, hn, e, r, t, H => by
    have hi : i < ops.size := by omega
    have hd : ops.toList.drop i = ops[i] :: ops.toList.drop (i + 1) := by
      rw [List.drop_eq_getElem_cons (by simpa using hi)]; simp
    rw [hd] at e
    simp only [evOps] at e
    rw [List.range'_succ, wpOpsIn_cons]
    unfold wpOpIn
    have hoi : ops[i]? = some ops[i] := by simp [hi]
    simp only [hoi]
    have go : ∀ (v : AV) (h1 : Heap), evOps C.P rec ops (ops.toList.drop (i + 1)) (tput tm ops[i].dst v) h1 k = some out → ∀ {β' : Be} {w' : World} {x : Value}, HRel C β' h1 w' → Ext β h w β' h1 w' → VRel β' v x →
        wpOpsIn (Wd ro) 0 C.P ops Q (List.range' (i + 1) n) (a.put ops[i].dst x) w' := by
      intro v h1 e' β' w' x r' x' hv
      refine evOps_ok hrec k n (i + 1) _ β' h1 w' _ (by omega) e' r' ((t.mono x'.sub).put hv _) ?_
      rintro a'' w'' ⟨β'', tm'', h'', e'', r'', t'', x'', hd'', hz⟩
      exact H a'' w'' ⟨β'', tm'', h'', e'', r'', t'', x'.trans x'', by rw [hd'', put_defers], by rw [hz, put_size]⟩
    cases hg : ops[i].guard.isSome with
    | false =>
      rw [hg] at e
      simp only [cond_false] at e
      have hg0 : ops[i].guard = none := by simpa using hg
      have hw : Region.wanted ops[i] (yielded ops a.tmps) = true := by unfold Region.wanted; rw [hg0]
      simp only [hw, if_true]
      refine evOp_ok hrec ops[i] r t e ?_
      rintro x w' ⟨β', u, h', e', hv, r', x'⟩
      exact go u h' e' r' x' hv
    | true =>
      rw [hg] at e
      simp only [cond_true] at e
      obtain ⟨v, h1, e1, e2⟩ := bnd_inv e
      rcases want_ok t e1 with ⟨hw, e1⟩ | ⟨hw, e1⟩
      · simp only [hw, if_true]
        refine evOp_ok hrec ops[i] r t e1 ?_
        rintro x w' ⟨β', u, h', e', hv, r', x'⟩
        cases e'
        exact go v h1 e2 r' x' hv
      · cases e1
        simp only [hw, Bool.false_eq_true, if_false]
        exact ⟨fun _ _ => trivial, go _ h e2 r (Ext.refl _ _ _) VRel.undef⟩
theorem region_ok (hrec : RecOk C rec) {id : Nat} {ops : Array Oper} {k : List AV → Heap → Option R} (e : evOps C.P rec ops ops.toList tm h k = some out) (r : HRel C β h w) (t : TRel β tm a.tmps)
    (H : ∀ a' w', RDone C β h w k out a a' w' → Q .normal a' w') : (Code.region id ops false).wpIn (Wd ro) 0 C.P Q a w := by
  refine wpIn_region ?_
  rw [List.range_eq_range']
  exact evOps_ok hrec k ops.size 0 tm β h w a (by omega) (by simpa using e) r t H
end
end Go.Ai
/-
  THE ABSTRACT INTERPRETER: a code.
-/
namespace Go.Ai
open Go

def exO : Ex → Exit
  | .normal => .normal
  | .exit i => .exit i
  | .goto i => .goto i
  | .ret => .ret
/-- The marks that loops over iterators leave among a frame's deferred calls: blocks of their own, from B on, that nothing stands for. -/
def MarksOk (B : Nat) (β : Be) (w : World) : List Deferred → Prop
  | [] => True
  | d :: ds => (∃ r, d = { target := .collected r, args := #[] } ∧ w.heap[r]? = some (.deferred (some [])) ∧ B ≤ r ∧ (∀ l p, β l = some p → p.b ≠ r) ∧ (∀ d' ∈ ds, d' ≠ d)) ∧ MarksOk B β w ds
def SitesOk (C : Ctx) (f nt : Nat) (L : Nat → List Nat) : Code → Prop
  | .seq a b => SitesOk C f nt L a ∧ SitesOk C f nt L b
  | .cond _ a b => SitesOk C f nt L a ∧ SitesOk C f nt L b
  | .block _ c => SitesOk C f nt L c
  | .loop c => SitesOk C f nt L c
  | .scope c => SitesOk C f nt L c
  | .rangeFunc _ ps asg body => C.S (siteId f body) = some ⟨nt, ps, asg, body, L (regId body)⟩
  | _ => True
/-- What is known of regions that draw their order. -/
def DrawOk (C : Ctx) (rec : Rec) : Prop :=
  ∀ {R : Type} {out : R} (ops : Array Oper) (id : Nat) (β : Be) (h : Heap) (w : World) (ro : Option Nat) (a : Act) (tm : List AV) (k : List AV → Heap → Option R) (Q : Exit → Act → World → Prop) (order B : List Nat),
    planOk C.P ops order B = true → evD C.P rec ops B order [] tm h k = some out → HRel C β h w → TRel β tm a.tmps →
    (∀ a' w', RDone C β h w k out a a' w' → Q .normal a' w') → (Code.region id ops true).wpIn (Wd ro) 0 C.P Q a w

section
variable {R : Type} {out : R} {C : Ctx} {rec : Rec} {N : Bk} {f nt : Nat} {L : Nat → List Nat}
theorem MarksOk.ext {B : Nat} {β β' : Be} {h h' : Heap} {w w' : World} (x : Ext β h w β' h' w') : ∀ {ds : List Deferred}, MarksOk B β w ds → MarksOk B β' w' ds
  | [], _ => trivial
  | d :: ds, ⟨⟨r, e1, e2, e3, e4, e5⟩, m⟩ => by
    have hlt : r < w.heap.size := (Array.getElem?_eq_some_iff.1 e2).1
    refine ⟨⟨r, e1, ?_, e3, ?_, e5⟩, MarksOk.ext x m⟩
    · rw [x.keep r hlt (fun l p e hb => absurd hb (e4 l p e))]; exact e2
    · intro l p e hb
      rcases x.new l p e with e' | ⟨_, h1 | ⟨l0, p0, e0, h1, _⟩⟩
      · exact e4 l p e' hb
      · omega
      · exact e4 l0 p0 e0 (h1.trans hb)
/-- Behind a code. -/
def CDone (C : Ctx) (B : Nat) (β : Be) (h : Heap) (w : World) (k : Ex → List AV → Heap → Option R) (out : R) (nt : Nat) (e : Exit) (a' : Act) (w' : World) : Prop :=
  ∃ ex β' tm' h', e = exO ex ∧ k ex tm' h' = some out ∧ HRel C β' h' w' ∧ TRel β' tm' a'.tmps ∧ tm'.length = nt ∧ Ext β h w β' h' w' ∧ MarksOk B β' w' a'.defers
theorem TRel.len {β : Be} {tm : List AV} {t : Array Value} (r : TRel β tm t) : tm.length = t.size := r.1
theorem unpack_rel {β : Be} {tm : List AV} {t : Array Value} (r : TRel β tm t) : ∀ (is : List Nat) (base : List AV), TRel β base t → TRel β (unpack base is (pack tm is)) t
  | [], base, rb => rb
  | i :: is, base, rb => by
    simp only [pack, List.map_cons, unpack]
    refine unpack_rel r is _ ⟨by simp [tset_length, rb.1], fun j => ?_⟩
    rw [tget_tset]
    split
    · rename_i hj; obtain ⟨rfl, _⟩ := hj; exact r.2 _
    · exact rb.2 j
theorem bots_rel {β : Be} {t : Array Value} (n : Nat) (hn : n = t.size) : TRel β (bots n) t := ⟨by rw [bots_length, hn], fun i => by rw [tget_bots]; simp [VRel]⟩
theorem unpack_length : ∀ (is : List Nat) (base vs : List AV), (unpack base is vs).length = base.length
  | [], _, _ => by simp [unpack]
  | _ :: _, _, [] => by simp [unpack]
  | i :: is, base, v :: vs => by simp [unpack, unpack_length is _ vs, tset_length]
theorem unc_inv : ∀ (n : Nat) (l : List AV) (k : List AV → Option R), unc n l k = some out → n ≤ l.length ∧ k (l.take n) = some out
  | 0, l, k, e => ⟨by omega, by simpa [unc] using e⟩
  | n + 1, [], k, e => by simp [unc, un] at e
  | n + 1, a :: l, k, e => by
    simp only [unc, un] at e
    obtain ⟨h1, h2⟩ := unc_inv n l _ e
    exact ⟨by simp; omega, by simpa using h2⟩
theorem pack_length (tm : List AV) (is : List Nat) : (pack tm is).length = is.length := by simp [pack]
theorem step_scope' {F : Fence} {n : Nat} {P : Program} {b : Frame} {k : List Item} {cs : List Frame} {a : Act} {w : World} {c : Code} (hb : F.fn b.fn) (hr : F.room (cs.length + 1 + n)) :
    StepsIn (Machine.fenced P F) P (lone (b.atR a (.code (.scope c) :: k)) cs w) (lone (b.atR a (.code c :: .inScope c :: k)) cs w) :=
  .one (fenced_calm hb hr rfl) (step_lone_go (by simp [stepG, stepG.exec, Frame.atR]))
theorem wpIn_scope' {F : Fence} {n : Nat} {P : Program} {Q : Exit → Act → World → Prop} {a : Act} {w : World} {c : Code} (h : c.wpIn F n P (Exit.noGoto Q) a w) : (Code.scope c).wpIn F n P Q a w := by
  intro b k cs hro hb hr
  have hs1 := step_scope' (P := P) (k := k) (a := a) (w := w) (c := c) hb hr
  have hs2 : ∀ a w, step P (lone (b.atR a (.inScope c :: k)) cs w) = .next (lone (b.atR a k) cs w) := fun a w => step_lone_go (by simp [stepG, stepG.exec, Frame.atR])
  obtain ⟨e, a₁, w₁, hq, harr⟩ := h b (.inScope c :: k) cs hro hb hr
  cases e with
  | normal => exact ⟨.normal, a₁, w₁, hq, hs1.trans (StepsIn.trans harr (.one (fenced_calm hb hr rfl) (hs2 a₁ w₁)))⟩
  | exit id =>
    have hx : exitTo id (.inScope c :: k) = exitTo id k := by simp [exitTo]
    exact ⟨.exit id, a₁, w₁, hq, fun k' hk => hs1.trans (harr.1 k' (by rw [hx]; exact hk)),
      fun hr' hk => let ⟨k₁, h1, h2⟩ := harr.2 hr' (by rw [hx]; exact hk); ⟨k₁, h1, hs1.trans h2⟩⟩
  | goto l => exact hq.elim
  | ret => exact ⟨_, a₁, w₁, hq, .of_steps hs1 harr⟩
  | panic ch => exact ⟨_, a₁, w₁, hq, .of_steps hs1 harr⟩
  | outgrown => exact ⟨_, a₁, w₁, hq, .of_steps hs1 harr⟩
theorem unpack_take : ∀ (is : List Nat) (base vs : List AV), unpack base is (vs.take is.length) = unpack base is vs
  | [], _, _ => by simp [unpack]
  | _ :: _, _, [] => by simp [unpack]
  | i :: is, base, v :: vs => by simp [unpack, unpack_take is _ vs]
theorem outs_inv {k : Nat → Option R} {i : Nat} : ∀ {l : List Nat}, outs l i k = some out → k i = some out
  | [], e => by simp [outs] at e
  | j :: l, e => by
    simp only [outs] at e
    cases hb : Nat.beq i j
    · rw [hb] at e; exact outs_inv e
    · rw [hb] at e; rw [Nat.eq_of_beq_eq_true hb]; exact e
theorem leave_inv {k : Ex → Option R} {p : Ex} {ret : Bool} {ids : List Nat} (e : leave ret ids p k = some out) : k p = some out ∧ ∀ l, p ≠ .goto l := by
  cases p with
  | normal => exact ⟨e, by simp⟩
  | exit i => exact ⟨outs_inv e, by simp⟩
  | goto i => simp [leave, leaveP] at e
  | ret => cases ret <;> simp [leave, leaveP] at e; exact ⟨e, by simp⟩
theorem loopAt_inv {h : Heap} {l id : Nat} {k : List AV → Nat → Ex → Option R} (e : loopAt h l id k = some out) : ∃ vs st p, h.get l = some (.loop id vs st p) ∧ k vs st p = some out := by
  unfold loopAt at e
  split at e
  · rename_i j vs st p hg
    cases hb : Nat.beq j id
    · rw [hb] at e; cases e
    · rw [hb] at e; rw [Nat.eq_of_beq_eq_true hb] at hg; exact ⟨vs, st, p, hg, e⟩
  · cases e
theorem CDone.after {B : Nat} {β β' : Be} {h h' : Heap} {w w' w'' : World} {k : Ex → List AV → Heap → Option R} {e : Exit} {a' : Act} (x : Ext β h w β' h' w') (d : CDone C B β' h' w' k out nt e a' w'') : CDone C B β h w k out nt e a' w'' := by
  obtain ⟨ex, β2, tm2, h2, e1, e2, e3, e4, e5, e6, e7⟩ := d
  exact ⟨ex, β2, tm2, h2, e1, e2, e3, e4, e5, x.trans e6, e7⟩
theorem loop_ok {c : Code} {B : Nat} {live : List Nat} {ro : Option Nat} {Q : Exit → Act → World → Prop} {k : Ex → List AV → Heap → Option R} {top : Bool}
    (ih : ∀ (tm : List AV) (h : Heap) (k : Ex → List AV → Heap → Option R) (β : Be) (w : World) (a : Act) (Q : Exit → Act → World → Prop), evC C.P rec N L f nt top c tm h k = some out → HRel C β h w → TRel β tm a.tmps → tm.length = nt → MarksOk B β w a.defers →
      B ≤ w.heap.size → (∀ e a' w', CDone C B β h w k out nt e a' w' → Q e a' w') → c.wpIn (Wd ro) 0 C.P Q a w) : ∀ (m : Nat) (vs : List AV) (h : Heap) (β : Be) (w : World) (a : Act),
    iter m (fun next vs h => unc live.length vs fun vs => evC C.P rec N L f nt top c (unpack (bots nt) live vs) h fun e tm h => (match e with
      | .normal => next (pack tm live) h
      | .exit i => k (.exit i) tm h
      | .goto i => k (.goto i) tm h
      | .ret => k .ret tm h)) vs h = some out → HRel C β h w → a.tmps.size = nt → TRel β (unpack (bots nt) live vs) a.tmps → MarksOk B β w a.defers → B ≤ w.heap.size →
    (∀ e a' w', CDone C B β h w k out nt e a' w' → Q e a' w') → Code.roundsIn (Wd ro) 0 C.P c Q m a w
  | 0, vs, h, β, w, a, e, r, hsz, t, mk, hB, H => by simp [iter] at e
  | m + 1, vs, h, β, w, a, e, r, hsz, t, mk, hB, H => by
    rw [roundsIn_succ]
    simp only [iter] at e
    obtain ⟨hn, e⟩ := unc_inv _ _ _ e
    rw [unpack_take] at e
    refine ih _ h _ β w a _ e r t (by rw [unpack_length, bots_length]) mk hB ?_
    rintro e' a' w' ⟨ex, β', tm', h', rfl, e2, r', t', hl, x, mk'⟩
    cases ex with
    | normal =>
      simp only [exO, Exit.then]
      have hsz' : a'.tmps.size = nt := by rw [← t'.len, hl]
      refine loop_ok ih m (pack tm' live) h' β' w' a' e2 r' hsz' (unpack_rel t' _ _ (bots_rel nt hsz'.symm)) mk' (Nat.le_trans hB x.size) ?_
      intro e'' a'' w'' d
      exact H e'' a'' w'' (d.after x)
    | exit i => exact H _ _ _ ⟨.exit i, β', tm', h', rfl, e2, r', t', hl, x, mk'⟩
    | goto i => exact H _ _ _ ⟨.goto i, β', tm', h', rfl, e2, r', t', hl, x, mk'⟩
    | ret => exact H _ _ _ ⟨.ret, β', tm', h', rfl, e2, r', t', hl, x, mk'⟩
end
end Go.Ai
/-
  THE ABSTRACT INTERPRETER: every code; a loop over an iterator.
-/
namespace Go.Ai
open Go

section
variable {R : Type} {out : R} {C : Ctx} {rec : Rec} {N : Bk} {f nt : Nat} {L : Nat → List Nat}
theorem marks_old {B : Nat} {β : Be} {w : World} {r : Nat} (hr : w.heap.size ≤ r) : ∀ {ds : List Deferred}, MarksOk B β w ds → ∀ d ∈ ds, d ≠ { target := .collected r, args := #[] }
  | [], _, d, hd => by simp at hd
  | d0 :: ds, ⟨⟨r0, e1, e2, _, _, _⟩, m⟩, d, hd => by
    rcases List.mem_cons.1 hd with rfl | hd
    · rw [e1]
      intro he
      have : r0 = r := by simpa using he
      have hlt : r0 < w.heap.size := (Array.getElem?_eq_some_iff.1 e2).1
      omega
    · exact marks_old hr m d hd
theorem rangeFunc_ok (hrec : RecOk C rec) {g : Operand} {ps : Array Tmp} {asg body : Code} {B : Nat} {Q : Exit → Act → World → Prop} {k : Ex → List AV → Heap → Option R} {β : Be} {h : Heap} {w : World} {a : Act} {tm : List AV} {sid : Nat} {live : List Nat}
    (hS : C.S sid = some ⟨nt, ps, asg, body, live⟩) {ret : Bool} {ids : List Nat}
    (e : callf rec (evX C.P tm g) [.yield h.next] (h.push (.loop sid (pack tm live) 0 .normal)) (fun _ h' =>
      loopAt h' h.next sid fun vs st p => bif Nat.beq st 1 then none
        else leave ret ids p fun e => k e tm (h'.set h.next (.loop sid vs 3 p))) = some out)
    (r : HRel C β h w) (t : TRel β tm a.tmps) (hl : tm.length = nt) (mk : MarksOk B β w a.defers) (hB : B ≤ w.heap.size) (H : ∀ e a' w', CDone C B β h w k out nt e a' w' → Q e a' w') :
    (Code.rangeFunc g ps asg body).wpIn (Wd none) 0 C.P Q a w := by
  refine wpIn_rangeFunc ?_
  intro fn _
  obtain ⟨r1, x1⟩ := r.garbage (.deferred (some []))
  have hnt : nt = a.tmps.size := by rw [← hl, t.len]
  have hrec' := r1.alloc (.loop sid (pack tm live) 0 .normal) (.loop { state := .ready, pending := none, fn, tmps := a.tmps, params := ps, assign := asg, body, defers := w.heap.size }) 0 ⟨_, _, by
      rw [World.size_alloc]
      have := World.alloc_heap_new (w.alloc (.deferred (some []))) (.loop { state := .ready, pending := none, fn, tmps := a.tmps, params := ps, assign := asg, body, defers := w.heap.size })
      rw [World.size_alloc] at this
      exact this, hS, rfl, rfl, rfl, by simp [pack_length], by
      have hs := Be.sub_put r1 ⟨(w.alloc (.deferred (some []))).heap.size, 0, 0⟩
      exact unpack_rel (t.mono hs) _ _ (bots_rel nt hnt), show StRel 0 LoopState.ready from rfl, show PRel .normal none from rfl⟩
  obtain ⟨r2, x2⟩ := hrec'
  generalize hp : (⟨(w.alloc (.deferred (some []))).heap.size, 0, 0⟩ : Pl) = p at r2 x2
  have hpb : p.b = w.heap.size + 1 := by rw [← hp]; simp
  have x12 := x1.trans x2
  have hself : (β.put h.next p) h.next = some p := Be.put_self β h.next p
  unfold callf at e
  split at e
  · rename_i gf ga gb hg
    obtain ⟨v, h', e1, e2⟩ := bnd_inv e
    have hgv := evX_rel (a := a) r t g
    rw [hg] at hgv
    simp only [VRel] at hgv
    obtain ⟨x, y, hev, h1, h2⟩ := hgv
    obtain ⟨⟨fn', hfn, hbody, hname⟩, hcall⟩ := hrec.fn gf _ _ v h' _ _ (x ++ #[.func (.yield (w.heap.size + 1)) #[] #[]] ++ y) e1 r2 (by
      simp only [Array.toList_append, List.append_assoc]
      refine (h1.mono x12.sub).append (VRels.append ?_ (h2.mono x12.sub))
      refine VRels.cons ?_ VRels.nil
      simp only [VRel]
      exact ⟨p, hself, by rw [hpb]⟩)
    obtain ⟨bd, hb⟩ := Option.isSome_iff_exists.1 hbody
    refine ⟨w.heap.size + 1, _, _, { target := .fn (.func gf) y, args := x ++ #[.func (.yield (w.heap.size + 1)) #[] #[]] }, (w.alloc (.deferred (some []))).alloc (.loop { state := .ready, pending := none, fn, tmps := a.tmps, params := ps, assign := asg, body, defers := w.heap.size }), gf, _, _, run_enterLoop_outer _ _ _ _ _, ?_, fun _ _ => trivial, ?_, fun hh => by simp [Wd] at hh, hcall.mono ?_⟩
    · have hcst : a.eval (.const (.func (.yield (w.heap.size + 1)) #[] #[])) = .func (.yield (w.heap.size + 1)) #[] #[] := rfl
      simp [resolve, rangeCall, hev, Deferred.ofValue, hcst]
    · simp [invoke, callFunc, hfn, hb, hname]
    · rintro e' w' ⟨β', v', rfl, hv, r', x'⟩
      obtain ⟨vs, st, pd, hgl, e3⟩ := loopAt_inv e2
      have hst : Nat.beq st 1 = false := by
        cases hh : Nat.beq st 1
        · rfl
        · rw [hh] at e3; cases e3
      rw [hst] at e3
      simp only [cond_false] at e3
      obtain ⟨e4, hng⟩ := leave_inv e3
      have hself' := x'.sub _ _ hself
      obtain ⟨lr, s, o1, o2, o3, o4, o5, o6, o7, o8, o9⟩ := r'.obj _ _ _ hself' hgl
      rw [hpb] at o1
      have hbusy : lr.state ≠ .busy := by
        match st, o8, hst with
        | 0, o8, _ => rw [show lr.state = .ready from o8]; simp
        | 2, o8, _ => rw [show lr.state = .done from o8]; simp
        | st + 3, o8, _ => rw [show lr.state = .exhausted from o8]; simp
      have hlt := (Array.getElem?_eq_some_iff.1 o1).1
      obtain ⟨r3, x3⟩ := r'.put (o' := .loop sid vs 3 pd) hself' hgl (by simp) (H := w'.heap.setIfInBounds (w.heap.size + 1) (.loop { lr with state := .exhausted })) (by simp)
        (fun b hb => by rw [Array.getElem?_setIfInBounds_ne]; rw [hpb] at hb; exact Ne.symm hb)
        ⟨{ lr with state := .exhausted }, s, by rw [hpb]; simp [hlt], o2, o3, o4, o5, o6, o7, rfl, o9⟩
      have xall := (x12.trans x').trans x3
      have hm2 : MarksOk B (β.put h.next p) ((w.alloc (.deferred (some []))).alloc (.loop { state := .ready, pending := none, fn, tmps := a.tmps, params := ps, assign := asg, body, defers := w.heap.size })) ({ target := .collected w.heap.size, args := #[] } :: a.defers) := by
        refine ⟨⟨w.heap.size, rfl, ?_, hB, ?_, marks_old (Nat.le_refl _) mk⟩, mk.ext x12⟩
        · rw [World.alloc_heap_old _ _ (by simp)]; exact World.alloc_heap_new w _
        · intro l q hq hqb
          unfold Be.put at hq
          by_cases hh : l = h.next
          · rw [if_pos hh] at hq; cases hq; omega
          · rw [if_neg hh] at hq; have := r.lt l q hq; omega
      have key : CDone C B β h w k out nt (exO pd) { a with defers := { target := .collected w.heap.size, args := #[] } :: a.defers } { w' with heap := w'.heap.setIfInBounds (w.heap.size + 1) (.loop { lr with state := .exhausted }) } :=
        ⟨pd, β', tm, _, rfl, e4, r3, t.mono xall.sub, hl, xall, hm2.ext (x'.trans x3)⟩
      refine ⟨lr.pending, _, run_endLoop o1 hbusy, ?_⟩
      cases pd with
      | normal => have hpe : lr.pending = none := o9; rw [hpe] at key ⊢; exact H _ _ _ key
      | ret => have hpe : lr.pending = some .ret := o9; rw [hpe] at key ⊢; exact wpIn_ret (H _ _ _ key)
      | exit i => have hpe : lr.pending = some (.exit i) := o9; rw [hpe] at key ⊢; exact wpIn_exit (H _ _ _ key)
      | goto i => exact absurd rfl (hng i)
  · cases e
theorem tst_inv {v : AV} {x y : Option R} (e : tst v x y = some out) : ∃ b, v = .bool b ∧ (if b then x else y) = some out := by
  unfold tst at e
  split at e
  · rename_i b; refine ⟨b, rfl, ?_⟩; cases b <;> exact e
  · cases e
theorem evC_ok (hrec : RecOk C rec) (hD : DrawOk C rec) (top : Bool) (ro : Option Nat) (htop : top = true → ro = none) (B : Nat) : ∀ (c : Code), (top = true → SitesOk C f nt L c) → ∀ (tm : List AV) (h : Heap) (k : Ex → List AV → Heap → Option R) (β : Be) (w : World) (a : Act) (Q : Exit → Act → World → Prop),
    evC C.P rec N L f nt top c tm h k = some out → HRel C β h w → TRel β tm a.tmps → tm.length = nt → MarksOk B β w a.defers → B ≤ w.heap.size → (∀ e a' w', CDone C B β h w k out nt e a' w' → Q e a' w') → c.wpIn (Wd ro) 0 C.P Q a w := by
  intro c
  induction c with
  | skip =>
    intro _ tm h k β w a Q e r t hl mk hB H
    exact wpIn_skip (H .normal a w ⟨.normal, β, tm, h, rfl, e, r, t, hl, Ext.refl _ _ _, mk⟩)
  | label l =>
    intro _ tm h k β w a Q e r t hl mk hB H
    exact wpIn_label (H .normal a w ⟨.normal, β, tm, h, rfl, e, r, t, hl, Ext.refl _ _ _, mk⟩)
  | ret =>
    intro _ tm h k β w a Q e r t hl mk hB H
    exact wpIn_ret (H .ret a w ⟨.ret, β, tm, h, rfl, e, r, t, hl, Ext.refl _ _ _, mk⟩)
  | exit i =>
    intro _ tm h k β w a Q e r t hl mk hB H
    exact wpIn_exit (H (.exit i) a w ⟨.exit i, β, tm, h, rfl, e, r, t, hl, Ext.refl _ _ _, mk⟩)
  | region id ops draw =>
    intro _ tm h k β w a Q e r t hl mk hB H
    have fin : ∀ a' w', RDone C β h w (fun tm h => k .normal tm h) out a a' w' → Q .normal a' w' := by
      rintro a' w' ⟨β', tm', h', e', r', t', x', hd, hs⟩
      exact H .normal a' w' ⟨.normal, β', tm', h', rfl, e', r', t', by rw [t'.len, hs, ← t.len, hl], x', by rw [hd]; exact mk.ext x'⟩
    simp only [evC] at e
    cases draw with
    | false => exact region_ok hrec e r t fin
    | true =>
      obtain ⟨e1, e2⟩ := bif_inv e
      exact hD ops id β h w ro a tm _ Q _ _ e1 e2 r t fin
  | seq x y ihx ihy =>
    intro hs tm h k β w a Q e r t hl mk hB H
    simp only [evC] at e
    cases hj : joins x y with
    | false =>
      rw [hj] at e
      simp only [cond_false] at e
      refine wpIn_seq (ihx (fun q => (hs q).1) tm h _ β w a _ e r t hl mk hB ?_)
      rintro e' a' w' ⟨ex, β', tm', h', rfl, e2, r', t', hl', x, mk'⟩
      cases ex with
      | normal => exact ihy (fun q => (hs q).2) tm' h' k β' w' a' Q e2 r' t' hl' mk' (Nat.le_trans hB x.size) fun e'' a'' w'' d => H e'' a'' w'' (d.after x)
      | exit i => exact H _ _ _ ⟨.exit i, β', tm', h', rfl, e2, r', t', hl', x, mk'⟩
      | goto i => exact H _ _ _ ⟨.goto i, β', tm', h', rfl, e2, r', t', hl', x, mk'⟩
      | ret => exact H _ _ _ ⟨.ret, β', tm', h', rfl, e2, r', t', hl', x, mk'⟩
    | true =>
      rw [hj] at e
      simp only [cond_true, joinPt] at e
      refine wpIn_seq (ihx (fun q => (hs q).1) tm h _ β w a _ e r t hl mk hB ?_)
      rintro e' a' w' ⟨ex, β', tm', h', rfl, e2, r', t', hl', x, mk'⟩
      cases ex with
      | normal =>
        simp only at e2
        obtain ⟨_, e3⟩ := unc_inv _ _ _ e2
        rw [unpack_take] at e3
        have hsz : nt = a'.tmps.size := by rw [← hl', t'.len]
        exact ihy (fun q => (hs q).2) _ h' k β' w' a' Q e3 r' (unpack_rel t' _ _ (bots_rel nt hsz)) (by rw [unpack_length, bots_length]) mk' (Nat.le_trans hB x.size) fun e'' a'' w'' d => H e'' a'' w'' (d.after x)
      | exit i => exact H _ _ _ ⟨.exit i, β', tm', h', rfl, e2, r', t', hl', x, mk'⟩
      | goto i => exact H _ _ _ ⟨.goto i, β', tm', h', rfl, e2, r', t', hl', x, mk'⟩
      | ret => exact H _ _ _ ⟨.ret, β', tm', h', rfl, e2, r', t', hl', x, mk'⟩
  | cond c x y ihx ihy =>
    intro hs tm h k β w a Q e r t hl mk hB H
    simp only [evC] at e
    obtain ⟨b, hb, e⟩ := tst_inv e
    have hv := evX_rel (a := a) r t c
    rw [hb] at hv
    refine wpIn_cond (t := b) hv ?_
    cases b with
    | true => exact ihx (fun q => (hs q).1) tm h k β w a Q e r t hl mk hB H
    | false => exact ihy (fun q => (hs q).2) tm h k β w a Q e r t hl mk hB H
  | block id c ih =>
    intro hs tm h k β w a Q e r t hl mk hB H
    simp only [evC] at e
    refine wpIn_block (ih hs tm h _ β w a _ e r t hl mk hB ?_)
    rintro e' a' w' ⟨ex, β', tm', h', rfl, e2, r', t', hl', x, mk'⟩
    cases ex with
    | normal => exact H _ _ _ ⟨.normal, β', tm', h', rfl, e2, r', t', hl', x, mk'⟩
    | exit i =>
      simp only [exO, Exit.inBlock]
      by_cases hi : i = id
      · subst hi
        simp only [nbeq_self, cond_true] at e2
        rw [if_pos rfl]
        exact H _ _ _ ⟨.normal, β', tm', h', rfl, e2, r', t', hl', x, mk'⟩
      · simp only [nbeq_false hi, cond_false] at e2
        rw [if_neg hi]
        exact H _ _ _ ⟨.exit i, β', tm', h', rfl, e2, r', t', hl', x, mk'⟩
    | goto i => exact H _ _ _ ⟨.goto i, β', tm', h', rfl, e2, r', t', hl', x, mk'⟩
    | ret => exact H _ _ _ ⟨.ret, β', tm', h', rfl, e2, r', t', hl', x, mk'⟩
  | loop c ih =>
    intro hs tm h k β w a Q e r t hl mk hB H
    simp only [evC] at e
    have hnt : nt = a.tmps.size := by rw [← hl, t.len]
    exact wpIn_loop_rounds N.n (loop_ok (ih hs) N.n _ h β w a e r hnt.symm (unpack_rel t _ _ (bots_rel nt hnt)) mk hB H)
  | rangeFunc g ps asg body iha ihb =>
    intro hs tm h k β w a Q e r t hl mk hB H
    simp only [evC] at e
    cases top with
    | false => cases e
    | true =>
      have := htop rfl
      subst this
      simp only [cond_true] at e
      exact rangeFunc_ok hrec (hs rfl) e r t hl mk hB H
  | scope c ih =>
    intro hs tm h k β w a Q e r t hl mk hB H
    simp only [evC] at e
    refine wpIn_scope' (ih hs tm h _ β w a _ e r t hl mk hB ?_)
    rintro e' a' w' ⟨ex, β', tm', h', rfl, e2, r', t', hl', x, mk'⟩
    cases ex with
    | normal => exact H _ _ _ ⟨.normal, β', tm', h', rfl, e2, r', t', hl', x, mk'⟩
    | exit i => exact H _ _ _ ⟨.exit i, β', tm', h', rfl, e2, r', t', hl', x, mk'⟩
    | goto i => cases e2
    | ret => exact H _ _ _ ⟨.ret, β', tm', h', rfl, e2, r', t', hl', x, mk'⟩
  | goto l => intro _ tm h k β w a Q e r t hl mk hB H; simp [evC] at e
  | refuse m => intro _ tm h k β w a Q e r t hl mk hB H; simp [evC] at e
end
end Go.Ai
/-
  THE ABSTRACT INTERPRETER: a function; a round.
-/
namespace Go.Ai
open Go

section
variable {R : Type} {out : R} {C : Ctx} {β : Be} {h : Heap} {w : World} {rec : Rec} {N : Bk} {f nt : Nat} {L : Nat → List Nat} {tm : List AV}
theorem loadRes_ok {t : TypeId} {a : AV} {v : Value} {k : AV → Option R} (r : HRel C β h w) (hv : VRel β a v) (e : aggB C.P t (ldn (szOf C.P t) h a k) (ld h a k) = some out) :
    ∃ ad x u, v = .pointer (some ad) ∧ (loadVar t ad).run C.P w = .ok x w ∧ VRel β u x ∧ k u = some out := by
  rcases aggB_inv e with ⟨d, hd, ha, e⟩ | ⟨d, hd, ha, e⟩
  · obtain ⟨ad, us, xs, rfl, hx, hr, h1, hn, e⟩ := ldn_ok r hv e
    obtain ⟨i, hi⟩ := info_of_und hd
    refine ⟨ad, .agg xs, _, rfl, ?_, by simp only [VRel]; exact ⟨xs, rfl, hr⟩, e⟩
    simp [loadVar, ha, run_sizeOf' hi, hx]
  · obtain ⟨ad, u, x, rfl, hx, hr, h1, e⟩ := ld_ok r hv e
    refine ⟨ad, x, u, rfl, ?_, hr, e⟩
    simp [loadVar, ha, hx]
theorem results1_ok {tmps : Array Value} (r : HRel C β h w) (t : TRel β tm tmps) : ∀ (l : List ResultVar) (k : List AV → Option R), results1 C.P tm h l k = some out →
    ∃ us vs, (List.mapM (m := Sem) (fun (x : ResultVar) => match x with | .tmp t => pure (tmps.getD t undef) | .cell a t => do loadVar t (← asAddr (tmps.getD a undef))) l).run C.P w = .ok vs w ∧ VRels β us vs ∧ k us = some out
  | [], k, e => ⟨[], [], by simp, VRels.nil, e⟩
  | .tmp x :: l, k, e => by
    obtain ⟨us, vs, h1, h2, h3⟩ := results1_ok r t l _ e
    refine ⟨_, tmps.getD x undef :: vs, ?_, VRels.cons (t.2 x) h2, h3⟩
    simp only [List.mapM_cons, Sem.run_bind, Sem.run_pure, Result.andThen_ok, h1]
  | .cell a y :: l, k, e => by
    simp only [results1] at e
    obtain ⟨ad, x, u, e1, e2, e3, e4⟩ := loadRes_ok (k := fun v => results1 C.P tm h l fun vs => k (v :: vs)) r (t.2 a) e
    obtain ⟨us, vs, h1, h2, h3⟩ := results1_ok r t l _ e4
    refine ⟨_, x :: vs, ?_, VRels.cons e3 h2, h3⟩
    have ha : (asAddr (tmps.getD a undef)).run C.P w = .ok ad w := by rw [e1]; simp [asAddr]
    simp only [List.mapM_cons, Sem.run_bind, Sem.run_pure, Result.andThen_ok, h1, ha, e2]
theorem one_rel {us : List AV} {vs : List Value} (r : VRels β us vs) : VRel β (one us) (if h : vs.toArray.size = 1 then vs.toArray[0] else .tuple vs.toArray) := by
  match us, vs, r with
  | [], vs, r => simp [VRels] at r; subst r; simp [one, VRel, VRels]
  | [u], vs, r =>
    simp only [VRels] at r
    obtain ⟨v, _, rfl, h1, rfl⟩ := r
    simpa [one] using h1
  | u :: u' :: us, vs, r =>
    have hr := r
    simp only [VRels] at r
    obtain ⟨v, _, rfl, h1, v', vs', rfl, h2, h3⟩ := r
    simp only [one]
    rw [dif_neg (by simp)]
    simp only [VRel]
    exact ⟨_, rfl, hr⟩
theorem results_ok {fn : Func} {tmps : Array Value} {k : List AV → Option R} (r : HRel C β h w) (t : TRel β tm tmps) (e : results1 C.P tm h fn.results.toList k = some out) :
    ∃ us v, (results fn tmps).run C.P w = .ok v w ∧ VRel β (one us) v ∧ k us = some out := by
  obtain ⟨us, vs, h1, h2, h3⟩ := results1_ok r t _ _ e
  refine ⟨us, _, ?_, one_rel h2, h3⟩
  unfold results
  rw [Array.mapM_eq_mapM_toList]
  simp only [Sem.run_bind, Sem.run_map, Sem.run_pure]
  generalize hX : Sem.run C.P (List.mapM _ _) w = X
  have hX : X = .ok vs w := hX.symm.trans h1
  subst hX
  rfl
theorem frame_rel {args : List AV} {args' : Array Value} (ha : VRels β args args'.toList) (hn : args.length ≤ nt) :
    TRel β (frame nt args) (args' ++ Array.replicate (nt - args'.size) undef) ∧ (frame nt args).length = nt := by
  have hl := ha.length
  simp at hl
  refine ⟨⟨by simp [frame, bots_length]; omega, fun i => ?_⟩, by simp [frame, bots_length]; omega⟩
  by_cases hi : i < args.length
  · have e1 : tget (frame nt args) i = args[i] := by
      have := tget_lt (frame nt args) i (by simp [frame]; omega)
      rw [frame, List.getElem?_append_left hi, List.getElem?_eq_getElem hi] at this
      exact Option.some.inj this
    obtain ⟨v, hv, hr⟩ := ha.get (List.getElem?_eq_getElem hi)
    rw [e1]
    have e2 : (args' ++ Array.replicate (nt - args'.size) undef).getD i undef = v := by
      rw [Array.getD_eq_getD_getElem?, Array.getElem?_append_left (by omega)]
      simp at hv
      simp [hv]
    rw [e2]; exact hr
  · have e1 : tget (frame nt args) i = .bot := by
      by_cases hh : i < (frame nt args).length
      · have := tget_lt (frame nt args) i hh
        rw [frame, List.getElem?_append_right (by omega)] at this
        have h3 := tget_lt (bots (nt - args.length)) (i - args.length) (by rw [bots_length]; simp [frame, bots_length] at hh; omega)
        rw [tget_bots] at h3
        rw [show nt.sub args.length = nt - args.length from rfl] at this
        rw [← h3] at this
        exact Option.some.inj this
      · exact tget_ge _ _ (by omega)
    rw [e1]; simp [VRel]
theorem leaves_ok {fn : Func} {tmps : Array Value} {v : AV} {hh : Heap} {β0 : Be} {h0 : Heap} {w0 : World} : ∀ (ds : List Deferred) (w : World), HRel C β h w → TRel β tm tmps → Ext β0 h0 w0 β h w → MarksOk w0.heap.size β w ds →
    results1 C.P tm h fn.results.toList (fun vs => some (one vs, h)) = some (v, hh) → LeavesInM (Wd none) 0 C.P fn tmps (CallPost C β0 h0 w0 v hh) ds .returning w
  | [], w, r, t, x, _, e => by
    obtain ⟨us, y, h1, h2, h3⟩ := results_ok r t e
    cases h3
    exact ⟨y, h1, β, y, rfl, h2, r, x⟩
  | d :: ds, w, r, t, x, ⟨⟨b, e1, e2, e3, e4, e5⟩, m⟩, e => by
    refine ⟨by simp, .inl ⟨b, _, by rw [e1], run_takeDeferred e2, ?_⟩⟩
    have hk : ∀ c, c ≠ b → (w.putObj b (.deferred none)).heap[c]? = w.heap[c]? := fun c hc => World.putObj_heap_other hc
    have r' : HRel C β h (w.putObj b (.deferred none)) := ⟨r.dom, fun l p hp => by simpa using r.lt l p hp, r.inj, fun l p o hp ho => (r.obj l p o hp ho).mono (Sub.refl β) (hk p.b (e4 l p hp)), r.glob, r.fin, r.rows⟩
    have hm : ∀ {ds : List Deferred}, MarksOk w0.heap.size β w ds → (∀ d' ∈ ds, d' ≠ d) → MarksOk w0.heap.size β (w.putObj b (.deferred none)) ds := by
      intro ds
      induction ds with
      | nil => exact fun _ _ => trivial
      | cons d' ds ih =>
        rintro ⟨⟨b', f1, f2, f3, f4, f5⟩, m'⟩ hne
        refine ⟨⟨b', f1, ?_, f3, f4, f5⟩, ih m' fun d'' hd => hne d'' (by simp [hd])⟩
        rw [hk b' ?_]; · exact f2
        · intro hb; exact hne d' (by simp) (by rw [f1, e1, hb])
    refine leaves_ok ds _ r' t ⟨x.sub, x.new, x.next, by simpa using x.size, fun c hc hn => ?_, x.tabs, x.out, x.os, x.tape, x.output, fun c hc => ?_⟩ (hm m e5) e
    · rw [hk c (by omega)]; exact x.keep c hc hn
    · rw [← x.frz c hc, frozen_fz, frozen_fz]
      by_cases hcb : c.block = b
      · rw [hcb, e2]
        have hlt := (Array.getElem?_eq_some_iff.1 e2).1
        simp [World.putObj, hlt, fz]
      · rw [hk _ hcb]
theorem evF_ok (hrec : RecOk C rec) (hD : DrawOk C rec) {fn : Func} {c : Code} (hfn : C.P.funcs[f]? = some fn) (hc : fn.body = some c) (hs : SitesOk C f fn.ntmps L c) {args : List AV} {args' : Array Value} {v : AV} {h' : Heap}
    (e : evF C.P rec N L f fn args h = some (v, h')) (r : HRel C β h w) (ha : VRels β args args'.toList) : CallsIn (Wd none) 0 C.P f args' w (CallPost C β h w v h') := by
  unfold evF at e
  rw [hc] at e
  simp only at e
  obtain ⟨hn, e⟩ := bif_inv e
  obtain ⟨t, hl⟩ := frame_rel ha (ble_le hn)
  refine callsIn_of_wp_marks hfn hc trivial ?_
  refine evC_ok hrec hD true none (fun _ => rfl) w.heap.size c (fun _ => hs) _ h _ β w _ _ e r t hl trivial (Nat.le_refl _) ?_
  rintro e' a' w' ⟨ex, β', tm', h2, rfl, e2, r', t', hl', x, mk'⟩
  cases ex with
  | normal => exact leaves_ok a'.defers w' r' t' x mk' e2
  | ret => exact leaves_ok a'.defers w' r' t' x mk' e2
  | exit i => cases e2
  | goto i => cases e2
end
end Go.Ai
/-
  THE ABSTRACT INTERPRETER: a round of a loop over an iterator.
-/
namespace Go.Ai
open Go

section
variable {C : Ctx} {β : Be} {h : Heap} {w : World} {rec : Rec} {N : Bk} {f nt : Nat} {L : Nat → List Nat}
theorem zip_rel : ∀ (ps : List Tmp) (base : List AV) (t : Array Value) (args : List AV) (vs : List Value), TRel β base t → VRels β args vs → TRel β (unpack base ps args) ((ps.zip vs).foldl (fun t (p : Tmp × Value) => t.setIfInBounds p.1 p.2) t)
  | [], base, t, args, vs, hb, ha => by simpa [unpack] using hb
  | p :: ps, base, t, [], vs, hb, ha => by simp [VRels] at ha; subst ha; simpa [unpack] using hb
  | p :: ps, base, t, a :: args, vs, hb, ha => by
    simp only [VRels] at ha
    obtain ⟨v, vs, rfl, h1, h2⟩ := ha
    simp only [unpack, List.zip_cons_cons, List.foldl_cons]
    exact zip_rel ps _ _ args vs (TRel.put (a := { tmps := t, defers := [] }) hb h1 (some p)) h2
theorem take_all {α : Type} {l : List α} {n : Nat} (h : l.length ≤ n) : l.take n = l := List.take_of_length_le h
theorem evY_ok (hrec : RecOk C rec) (hD : DrawOk C rec) {fn : Func} {ps : Array Tmp} {asg body : Code} {l : Nat} {vs : List AV} {st : Nat} {pd : Ex} {p : Pl} {args : List AV} {args' : Array Value} {v : AV} {h' : Heap}
    (hS : C.S (siteId f body) = some ⟨fn.ntmps, ps, asg, body, L (regId body)⟩) (hg : h.get l = some (.loop (siteId f body) vs st pd)) (hp : β l = some p)
    (e : evY C.P rec N L f fn ps.toList asg body l vs args h = some (v, h')) (r : HRel C β h w) (ha : VRels β args args'.toList) :
    ∃ f tmps asg body, (Instr.yield p.b args').run C.P w = .ok (.round p.b f tmps asg body) w ∧ RoundIn (Wd none) 0 C.P p.b f tmps asg body w (CallPost C β h w v h') := by
  obtain ⟨lr, s, o1, o2, o3, o4, o5, o6, o7, o8, o9⟩ := r.obj _ _ _ hp hg
  rw [hS] at o2
  cases o2
  simp only at o3 o4 o5 o6 o7
  unfold evY at e
  obtain ⟨_, e⟩ := unc_inv _ _ _ e
  rw [take_all (by omega)] at e
  obtain ⟨hn, e⟩ := bif_inv e
  have hn := beq_eq hn
  obtain ⟨_, e⟩ := unc_inv _ _ _ e
  rw [take_all (by omega)] at e
  have hal := ha.length
  refine ⟨lr.fn, _, lr.assign, lr.body, run_yield o1 (by rw [o3]; simp at hal hn; omega), ?_⟩
  have ht := zip_rel ps.toList _ _ args args'.toList o7 ha
  have htm : (lr.params.zip args').foldl (fun tmps (t, a) => tmps.setIfInBounds t a) lr.tmps = (ps.toList.zip args'.toList).foldl (fun t (p : Tmp × Value) => t.setIfInBounds p.1 p.2) lr.tmps := by
    rw [o3, ← Array.foldl_toList, Array.toList_zip]
  rw [htm]
  have hlen : (unpack (unpack (bots fn.ntmps) (L (regId body)) vs) ps.toList args).length = fn.ntmps := by rw [unpack_length, unpack_length, bots_length]
  refine roundIn_of_wpIn trivial ?_
  rw [o4, o5]
  show Code.wpIn (Wd (some p.b)) 0 C.P asg _ _ w
  refine evC_ok (L := L) (f := f) (N := N) hrec hD false (some p.b) (by simp) w.heap.size asg (by simp) _ h _ β w { tmps := _, defers := [] } _ e r ht hlen trivial (Nat.le_refl _) ?_
  rintro e' a1 w1 ⟨ex, β1, tm1, h1, rfl, e2, r1, t1, hl1, x1, mk1⟩
  cases ex with
  | exit i => cases e2
  | goto i => cases e2
  | ret => cases e2
  | normal =>
    simp only [exO, Exit.then]
    obtain ⟨ws, st1, pd1, hg1, e3⟩ := loopAt_inv e2
    obtain ⟨hst, e3⟩ := bif_inv e3
    have hst := beq_eq hst
    subst hst
    have hp1 := x1.sub _ _ hp
    obtain ⟨lr1, s1, q1, q2, q3, q4, q5, q6, q7, q8, q9⟩ := r1.obj _ _ _ hp1 hg1
    have hlt := (Array.getElem?_eq_some_iff.1 q1).1
    refine ⟨_, run_beginRound q1 q8, ?_⟩
    obtain ⟨r2, x2⟩ := r1.put (o' := .loop (siteId f body) ws 1 pd1) hp1 hg1 (by simp) (H := w1.heap.setIfInBounds p.b (.loop { lr1 with state := .busy })) (by simp)
      (fun b hb => by rw [Array.getElem?_setIfInBounds_ne (Ne.symm hb)])
      ⟨{ lr1 with state := .busy }, s1, by simp [hlt], q2, q3, q4, q5, q6, q7, rfl, q9⟩
    show Code.wpIn (Wd (some p.b)) 0 C.P body _ _ _
    refine evC_ok (L := L) (f := f) (N := N) hrec hD false (some p.b) (by simp) w.heap.size body (by simp) _ _ _ β1 (w1.putObj p.b (.loop { lr1 with state := .busy })) a1 _ e3 r2 t1 hl1 (mk1.ext x2) (by simpa using x1.size) ?_
    rintro e' a3 w3 ⟨ex, β3, tm3, h3, rfl, e4, r3, t3, hl3, x3, mk3⟩
    obtain ⟨ws3, st3, pd3, hg3, e5⟩ := loopAt_inv e4
    have hp3 := x3.sub _ _ hp1
    obtain ⟨lr3, s3, z1, z2, z3, z4, z5, z6, z7, z8, z9⟩ := r3.obj _ _ _ hp3 hg3
    have hlt3 := (Array.getElem?_eq_some_iff.1 z1).1
    have x23 := (x1.trans x2).trans x3
    have fin : ∀ (j : Option Code) (st4 : Nat) (pd4 : Ex), StRel st4 (if j.isNone then .ready else .done) → PRel pd4 j →
        HRel C β3 (h3.set l (.loop (siteId f body) ws3 st4 pd4)) (w3.putObj p.b (.loop { lr3 with state := if j.isNone then .ready else .done, pending := j })) ∧
        Ext β3 h3 w3 β3 (h3.set l (.loop (siteId f body) ws3 st4 pd4)) (w3.putObj p.b (.loop { lr3 with state := if j.isNone then .ready else .done, pending := j })) := by
      intro j st4 pd4 hs4 hp4
      exact r3.put (o' := .loop (siteId f body) ws3 st4 pd4) hp3 hg3 (by simp) (H := w3.heap.setIfInBounds p.b (.loop { lr3 with state := if j.isNone then .ready else .done, pending := j })) (by simp)
        (fun b hb => by rw [Array.getElem?_setIfInBounds_ne (Ne.symm hb)])
        ⟨{ lr3 with state := if j.isNone then .ready else .done, pending := j }, s3, by simp [hlt3], z2, z3, z4, z5, z6, z7, hs4, hp4⟩
    cases ex with
    | normal =>
      cases e5
      obtain ⟨r4, x4⟩ := fin none 0 .normal rfl rfl
      exact ⟨_, _, run_endRound none z1, β3, _, rfl, by simp [VRel], r4, x23.trans x4⟩
    | exit i =>
      cases e5
      obtain ⟨r4, x4⟩ := fin (some (.exit i)) 2 (.exit i) rfl rfl
      exact ⟨_, _, run_endRound (some (.exit i)) z1, β3, _, rfl, by simp [VRel], r4, x23.trans x4⟩
    | goto i =>
      cases e5
      obtain ⟨r4, x4⟩ := fin (some (.goto i)) 2 (.goto i) rfl rfl
      exact ⟨_, _, run_endRound (some (.goto i)) z1, β3, _, rfl, by simp [VRel], r4, x23.trans x4⟩
    | ret =>
      cases e5
      obtain ⟨r4, x4⟩ := fin (some .ret) 2 .ret rfl rfl
      exact ⟨_, _, run_endRound (some .ret) z1, β3, _, rfl, by simp [VRel], r4, x23.trans x4⟩
end
end Go.Ai
