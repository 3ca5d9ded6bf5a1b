/-
  THE ABSTRACT INTERPRETER: a whole program: what the evaluator comes to, every run comes to.
-/
import Derived.Test.YtilmoifpikljhaaGreatDoorA5
import Derived.Test.YtilmoifpikljhaaGreatDoorA6
import Derived.RowKit3
set_option linter.unusedVariables false
set_option linter.unusedSimpArgs false
namespace Go.Ai
open Go

/-! ### Tables -/
/-- the loops over iterators that stand in a code, not within one another -/
def sites : Code → List (Array Tmp × Code × Code)
  | .seq a b => sites a ++ sites b
  | .cond _ a b => sites a ++ sites b
  | .block _ c => sites c
  | .loop c => sites c
  | .scope c => sites c
  | .rangeFunc _ ps asg body => [(ps, asg, body)]
  | _ => []
def siteIn (r : Nat) : List (Array Tmp × Code × Code) → Option (Array Tmp × Code × Code)
  | [] => none
  | s :: l => bif Nat.beq (regId s.2.2) r then some s else siteIn r l
/-- A program's tables: its functions; which slots a loop holds; how many rounds a loop has at most. -/
structure Tabs where
  fn : Nat → Option Func
  live : Nat → Nat → List Nat
  N : Nat → Bk
  xfn : Nat → Option (List AV → Heap → Option (AV × Heap))      -- functions without a body, and such as are known otherwise
def siteAt (T : Tabs) (id : Nat) : Option (Nat × Func × Array Tmp × Code × Code) := match T.fn (Nat.div id 1000) with
  | some fn => (match fn.body with
    | some c => (match siteIn (Nat.mod id 1000) (sites c) with
      | some s => some (Nat.div id 1000, fn, s)
      | none => none)
    | none => none)
  | none => none
/-- a function's body, a round: with what is known of all that they call -/
def bodyR (P : Program) (T : Tabs) (rec : Rec) (f : Nat) (args : List AV) (h : Heap) : Option (AV × Heap) := match T.fn f with
  | some fn => evF P rec (T.N f) (T.live f) f fn args h
  | none => none
def roundR (P : Program) (T : Tabs) (rec : Rec) (l : Nat) (args : List AV) (h : Heap) : Option (AV × Heap) := match h.get l with
  | some (.loop id vs _ _) => (match siteAt T id with
    | some (f, fn, ps, asg, body) => bif Nat.beq id (siteId f body) then evY P rec (T.N f) (T.live f) f fn ps.toList asg body l vs args h else none
    | none => none)
  | _ => none
def evR (P : Program) (T : Tabs) : Nat → Rec
  | 0, _, _, _ => none
  | n + 1, .fn f, args, h => bodyR P T (evR P T n) f args h
  | n + 1, .round l, args, h => roundR P T (evR P T n) l args h
  | n + 1, .call f, args, h => (match T.xfn f with
    | some x => x args h
    | none => bodyR P T (evR P T n) f args h)
/-- What the tables must be. -/
def distinct : List Nat → Bool
  | [] => true
  | a :: l => !l.contains a && distinct l
structure TabsOk (P : Program) (T : Tabs) : Prop where
  mixed : P.follows .mixedOrders = true
  fn : ∀ f fn, T.fn f = some fn → P.funcs[f]? = some fn ∧ fn.name ≠ "runtime.NumGoroutine" ∧ ∀ c, fn.body = some c → distinct ((sites c).map fun s => regId s.2.2) = true ∧ ∀ s ∈ sites c, regId s.2.2 < 1000
  ext : ∀ C : Ctx, C.P = P → ∀ f x, T.xfn f = some x → ∀ args h v h' β w (args' : Array Value), x args h = some (v, h') → HRel C β h w → VRels β args args'.toList →
    (∃ x w', (callFunc f args').run C.P w = .ok (.value x) w' ∧ CallPost C β h w v h' (.returned x) w') ∨
    ((∃ fn, C.P.funcs[f]? = some fn ∧ fn.body.isSome = true ∧ fn.name ≠ "runtime.NumGoroutine") ∧ CallsIn (Wd none) 0 C.P f args' w (CallPost C β h w v h'))
def ctxOf (P : Program) (T : Tabs) : Ctx := ⟨P, fun id => match siteAt T id with
  | some (f, fn, ps, asg, body) => bif Nat.beq id (siteId f body) then some ⟨fn.ntmps, ps, asg, body, T.live f (regId body)⟩ else none
  | none => none⟩
theorem siteIn_mem {r : Nat} : ∀ {l : List (Array Tmp × Code × Code)} {s : Array Tmp × Code × Code}, distinct (l.map fun s => regId s.2.2) = true → s ∈ l → regId s.2.2 = r → siteIn r l = some s
  | [], _, _, hs, _ => by cases hs
  | q :: l, s, hd, hs, hr => by
    simp only [List.map_cons, distinct, Bool.and_eq_true] at hd
    simp only [siteIn]
    rcases List.mem_cons.1 hs with rfl | hs
    · rw [hr, nbeq_self]; rfl
    · have hne : regId q.2.2 ≠ r := by
        intro hq
        have h1 := hd.1
        simp only [Bool.not_eq_true', List.contains_eq_mem, decide_eq_false_iff_not, List.mem_map, not_exists, not_and] at h1
        exact h1 s hs (by rw [hq, hr])
      rw [nbeq_false hne]
      exact siteIn_mem hd.2 hs hr
theorem sitesOk_of {P : Program} {T : Tabs} {f : Nat} {nt : Nat} : ∀ (c : Code), (∀ s ∈ sites c, (ctxOf P T).S (siteId f s.2.2) = some ⟨nt, s.1, s.2.1, s.2.2, T.live f (regId s.2.2)⟩) → SitesOk (ctxOf P T) f nt (T.live f) c
  | .seq a b, h => ⟨sitesOk_of a fun s hs => h s (List.mem_append_left _ hs), sitesOk_of b fun s hs => h s (List.mem_append_right _ hs)⟩
  | .cond _ a b, h => ⟨sitesOk_of a fun s hs => h s (List.mem_append_left _ hs), sitesOk_of b fun s hs => h s (List.mem_append_right _ hs)⟩
  | .block _ c, h => sitesOk_of c h
  | .loop c, h => sitesOk_of c h
  | .scope c, h => sitesOk_of c h
  | .rangeFunc _ ps asg body, h => h (ps, asg, body) (by simp [sites])
  | .skip, _ => trivial
  | .region _ _ _, _ => trivial
  | .exit _, _ => trivial
  | .label _, _ => trivial
  | .ret, _ => trivial
  | .goto _, _ => trivial
  | .refuse _, _ => trivial
section
variable {P : Program} {T : Tabs}
theorem site_of (ok : TabsOk P T) {f : Nat} {fn : Func} {c : Code} (hf : T.fn f = some fn) (hc : fn.body = some c) : SitesOk (ctxOf P T) f fn.ntmps (T.live f) c := by
  obtain ⟨_, _, hb⟩ := ok.fn f fn hf
  obtain ⟨hd, hr⟩ := hb c hc
  refine sitesOk_of c fun s hs => ?_
  have h1 := hr s hs
  have e1 : Nat.div (siteId f s.2.2) 1000 = f := by
    show (f * 1000 + regId s.2.2) / 1000 = f
    omega
  have e2 : Nat.mod (siteId f s.2.2) 1000 = regId s.2.2 := by
    show (f * 1000 + regId s.2.2) % 1000 = regId s.2.2
    omega
  have h2 : siteAt T (siteId f s.2.2) = some (f, fn, s) := by
    unfold siteAt
    rw [e1, e2, hf]
    simp only [hc]
    rw [siteIn_mem hd hs rfl]
  simp only [ctxOf, h2]
  rw [nbeq_self]
  rfl
theorem siteAt_inv {id f : Nat} {fn : Func} {ps : Array Tmp} {asg body : Code} (h : siteAt T id = some (f, fn, ps, asg, body)) : T.fn f = some fn ∧ fn.body.isSome = true := by
  unfold siteAt at h
  split at h
  · rename_i fn' hf
    split at h
    · rename_i c hc
      split at h
      · cases h; exact ⟨hf, by simp [hc]⟩
      · cases h
    · cases h
  · cases h
theorem bodyR_ok (ok : TabsOk P T) {rec : Rec} (ih : RecOk (ctxOf P T) rec) {f : Nat} {args : List AV} {h : Heap} {v : AV} {h' : Heap} {β : Be} {w : World} {args' : Array Value} (e : bodyR P T rec f args h = some (v, h'))
    (r : HRel (ctxOf P T) β h w) (ha : VRels β args args'.toList) :
    (∃ fn, P.funcs[f]? = some fn ∧ fn.body.isSome = true ∧ fn.name ≠ "runtime.NumGoroutine") ∧ CallsIn (Wd none) 0 P f args' w (CallPost (ctxOf P T) β h w v h') := by
  have hD : DrawOk (ctxOf P T) rec := @drawOk (ctxOf P T) rec ok.mixed ih
  unfold bodyR at e
  split at e
  · rename_i fn hf
    obtain ⟨h1, h2, _⟩ := ok.fn f fn hf
    cases hc : fn.body with
    | none => simp [evF, hc] at e
    | some c => exact ⟨⟨fn, h1, by simp [hc], h2⟩, evF_ok ih hD h1 hc (site_of ok hf hc) e r ha⟩
  · cases e
theorem roundR_ok (ok : TabsOk P T) {rec : Rec} (ih : RecOk (ctxOf P T) rec) {l : Nat} {p : Pl} {args : List AV} {h : Heap} {v : AV} {h' : Heap} {β : Be} {w : World} {args' : Array Value} (e : roundR P T rec l args h = some (v, h'))
    (hp : β l = some p) (r : HRel (ctxOf P T) β h w) (ha : VRels β args args'.toList) :
    ∃ f tmps asg body, (Instr.yield p.b args').run P w = .ok (.round p.b f tmps asg body) w ∧ RoundIn (Wd none) 0 P p.b f tmps asg body w (CallPost (ctxOf P T) β h w v h') := by
  have hD : DrawOk (ctxOf P T) rec := @drawOk (ctxOf P T) rec ok.mixed ih
  unfold roundR at e
  split at e
  · rename_i id vs st pd hg
    split at e
    · rename_i f fn ps asg body hs
      obtain ⟨hb, e1⟩ := bif_inv e
      have hb := beq_eq hb
      subst hb
      have hS : (ctxOf P T).S (siteId f body) = some ⟨fn.ntmps, ps, asg, body, T.live f (regId body)⟩ := by
        simp only [ctxOf, hs]
        rw [nbeq_self]; rfl
      exact evY_ok ih hD hS hg hp e1 r ha
    · cases e
  · cases e
/-- THE EVALUATOR IS RIGHT: one that comes, step by step, to no more than bodies and rounds come to. -/
theorem recOk_of (ok : TabsOk P T) (R : Nat → Rec) (h0 : ∀ key args h, R 0 key args h = none)
    (hf : ∀ n f args h r, R (n + 1) (.fn f) args h = some r → bodyR P T (R n) f args h = some r)
    (hr : ∀ n l args h r, R (n + 1) (.round l) args h = some r → roundR P T (R n) l args h = some r)
    (hc : ∀ n f args h r, R (n + 1) (.call f) args h = some r → (∃ x, T.xfn f = some x ∧ x args h = some r) ∨ bodyR P T (R n) f args h = some r) : ∀ n, RecOk (ctxOf P T) (R n)
  | 0 => ⟨fun _ _ _ _ _ _ _ _ e => by simp [h0] at e, fun _ _ _ _ _ _ _ _ _ e => by simp [h0] at e, fun _ _ _ _ _ _ _ _ e => by simp [h0] at e⟩
  | n + 1 => by
    have ih := recOk_of ok R h0 hf hr hc n
    refine ⟨fun f args h v h' β w args' e r ha => bodyR_ok ok ih (hf _ _ _ _ _ e) r ha, fun l args h v h' β w args' p e hp r ha => roundR_ok ok ih (hr _ _ _ _ _ e) hp r ha, fun f args h v h' β w args' e r ha => ?_⟩
    rcases hc _ _ _ _ _ e with ⟨x, hx, e⟩ | e
    · exact ok.ext (ctxOf P T) rfl f x hx args h v h' β w args' e r ha
    · exact .inr (bodyR_ok ok ih e r ha)
theorem evR_ok (ok : TabsOk P T) : ∀ n, RecOk (ctxOf P T) (evR P T n) :=
  recOk_of ok (evR P T) (fun _ _ _ => rfl) (fun _ _ _ _ _ e => e) (fun _ _ _ _ _ e => e) (fun n f args h r e => by
    simp only [evR] at e
    split at e
    · rename_i x hx; exact .inl ⟨x, hx, e⟩
    · exact .inr e)
end
end Go.Ai
/-
  THE ABSTRACT INTERPRETER: tables of functions whose bodies have been reckoned out; the evaluator that goes by them.
-/
namespace Go.Ai
open Go

/-! ### Which functions may be followed -/
def okFn (fn : Func) : Bool := (match fn.body with
  | some c => distinct ((sites c).map fun s => regId s.2.2) && (sites c).all fun s => Nat.blt (regId s.2.2) 1000
  | none => true) && !(fn.name == "runtime.NumGoroutine")
def fnOf (P : Program) (f : Nat) : Option Func := match P.funcs[f]? with
  | some fn => bif okFn fn then some fn else none
  | none => none
theorem fnOf_ok {P : Program} {f : Nat} {fn : Func} (h : fnOf P f = some fn) :
    P.funcs[f]? = some fn ∧ fn.name ≠ "runtime.NumGoroutine" ∧ ∀ c, fn.body = some c → distinct ((sites c).map fun s => regId s.2.2) = true ∧ ∀ s ∈ sites c, regId s.2.2 < 1000 := by
  unfold fnOf at h
  split at h
  · rename_i fn' hf
    cases hb : okFn fn' with
    | false => rw [hb] at h; cases h
    | true =>
      rw [hb] at h
      cases h
      unfold okFn at hb
      rw [Bool.and_eq_true] at hb
      obtain ⟨h1, h2⟩ := hb
      refine ⟨hf, by simpa using h2, fun c hc => ?_⟩
      rw [hc] at h1
      simp only [Bool.and_eq_true, List.all_eq_true] at h1
      exact ⟨h1.1, fun s hs => blt_lt (h1.2 s hs)⟩
  · cases h

/-! ### Tables -/
abbrev Out := Option (AV × Heap)
/-- what functions come to, by their numbers -/
inductive DT where
  | e
  | n (k : Nat) (F : Nat → Rec → List AV → Heap → Out) (l r : DT)
def DT.run (n : Nat) (rec : Rec) (args : List AV) (h : Heap) : DT → Nat → Out
  | .e, _ => none
  | .n k F l r, f => bif Nat.beq f k then F n rec args h else bif Nat.blt f k then DT.run n rec args h l f else DT.run n rec args h r f
inductive YT where
  | e
  | n (k : Nat) (F : Nat → Rec → Nat → List AV → List AV → Heap → Out) (l r : YT)
def YT.run (n : Nat) (rec : Rec) (p : Nat) (vs args : List AV) (h : Heap) : YT → Nat → Out
  | .e, _ => none
  | .n k F l r, f => bif Nat.beq f k then F n rec p vs args h else bif Nat.blt f k then YT.run n rec p vs args h l f else YT.run n rec p vs args h r f
/-- what is known otherwise -/
abbrev XF := Nat → Option (List AV → Heap → Out)
def entX (args : List AV) (h : Heap) (o : Out) : Option (List AV → Heap → Out) → Out
  | some x => x args h
  | none => o
def rndY (Y : YT) (n : Nat) (rec : Rec) (l : Nat) (args : List AV) (h : Heap) : Option Obj → Out
  | some (.loop id vs _ _) => YT.run n rec l vs args h Y id
  | _ => none
/-- THE EVALUATOR BY TABLES. -/
def resR (D : DT) (Y : YT) (x : XF) (n : Nat) : Nat → Rec
  | 0, _, _, _ => none
  | m + 1, .fn f, args, h => DT.run n (resR D Y x n m) args h D f
  | m + 1, .call f, args, h => entX args h (DT.run n (resR D Y x n m) args h D f) (x f)
  | m + 1, .round l, args, h => rndY Y n (resR D Y x n m) l args h (h.get l)
def EntOk (P : Program) (T : Tabs) (n f : Nat) (F : Nat → Rec → List AV → Heap → Out) : Prop := ∀ rec args h r, F n rec args h = some r → bodyR P T rec f args h = some r
def DT.ok (P : Program) (T : Tabs) (n : Nat) : DT → Prop
  | .e => True
  | .n k F l r => EntOk P T n k F ∧ l.ok P T n ∧ r.ok P T n
/-- what a round is, told of its site -/
def roundS (P : Program) (T : Tabs) (rec : Rec) (l id : Nat) (vs args : List AV) (h : Heap) : Out := match siteAt T id with
  | some (f, fn, ps, asg, body) => bif Nat.beq id (siteId f body) then evY P rec (T.N f) (T.live f) f fn ps.toList asg body l vs args h else none
  | none => none
def YOk (P : Program) (T : Tabs) (n id : Nat) (F : Nat → Rec → Nat → List AV → List AV → Heap → Out) : Prop := ∀ rec l vs args h r, F n rec l vs args h = some r → roundS P T rec l id vs args h = some r
def YT.ok (P : Program) (T : Tabs) (n : Nat) : YT → Prop
  | .e => True
  | .n k F l r => YOk P T n k F ∧ l.ok P T n ∧ r.ok P T n
def Tabs.withX (T : Tabs) (x : XF) : Tabs := { T with xfn := x }
section
variable {P : Program} {T : Tabs} {n : Nat}
theorem roundS_eq {rec : Rec} {l id : Nat} {vs args : List AV} {h : Heap} {st : Nat} {pd : Ex} (hg : h.get l = some (.loop id vs st pd)) : roundR P T rec l args h = roundS P T rec l id vs args h := by
  unfold roundR roundS
  rw [hg] <;> rfl
theorem DT.run_ok {rec : Rec} {args : List AV} {h : Heap} {r : AV × Heap} : ∀ {D : DT} {f : Nat}, D.ok P T n → DT.run n rec args h D f = some r → bodyR P T rec f args h = some r
  | .e, _, _, he => by simp [DT.run] at he
  | .n k F l q, f, ⟨h1, h2, h3⟩, he => by
    simp only [DT.run] at he
    cases hb : Nat.beq f k with
    | true => rw [hb] at he; rw [beq_eq hb]; exact h1 _ _ _ _ he
    | false =>
      rw [hb] at he
      simp only [cond_false] at he
      cases hl : Nat.blt f k with
      | true => rw [hl] at he; exact DT.run_ok h2 he
      | false => rw [hl] at he; exact DT.run_ok h3 he
theorem YT.run_ok {rec : Rec} {p : Nat} {vs args : List AV} {h : Heap} {r : AV × Heap} : ∀ {D : YT} {f : Nat}, D.ok P T n → YT.run n rec p vs args h D f = some r → roundS P T rec p f vs args h = some r
  | .e, _, _, he => by simp [YT.run] at he
  | .n k F l q, f, ⟨h1, h2, h3⟩, he => by
    simp only [YT.run] at he
    cases hb : Nat.beq f k with
    | true => rw [hb] at he; rw [beq_eq hb]; exact h1 _ _ _ _ _ _ he
    | false =>
      rw [hb] at he
      simp only [cond_false] at he
      cases hl : Nat.blt f k with
      | true => rw [hl] at he; exact YT.run_ok h2 he
      | false => rw [hl] at he; exact YT.run_ok h3 he
theorem DT.withX (x : XF) : ∀ {D : DT}, D.ok P T n → D.ok P (T.withX x) n
  | .e, _ => trivial
  | .n _ _ _ _, ⟨h1, h2, h3⟩ => ⟨h1, DT.withX x h2, DT.withX x h3⟩
theorem YT.withX (x : XF) : ∀ {D : YT}, D.ok P T n → D.ok P (T.withX x) n
  | .e, _ => trivial
  | .n _ _ _ _, ⟨h1, h2, h3⟩ => ⟨h1, YT.withX x h2, YT.withX x h3⟩
/-- THE EVALUATOR BY TABLES IS RIGHT. -/
theorem resR_ok {x : XF} (ok : TabsOk P (T.withX x)) {D : DT} {Y : YT} (hD : D.ok P T n) (hY : Y.ok P T n) : ∀ m, RecOk (ctxOf P (T.withX x)) (resR D Y x n m) :=
  recOk_of ok (resR D Y x n) (fun _ _ _ => rfl)
    (fun m f args h r e => DT.run_ok (DT.withX x hD) e)
    (fun m l args h r e => by
      simp only [resR] at e
      cases hg : h.get l with
      | none => rw [hg] at e; cases e
      | some o =>
        rw [hg] at e
        cases o with
        | loop id vs st pd => rw [roundS_eq hg]; exact YT.run_ok (YT.withX x hY) e
        | _ => cases e)
    (fun m f args h r e => by
      simp only [resR] at e
      cases hx : x f with
      | none => rw [hx] at e; exact .inr (DT.run_ok (DT.withX x hD) e)
      | some y => rw [hx] at e; exact .inl ⟨y, hx, e⟩)
/-- What must be known of what is known otherwise. -/
def SumOk (P : Program) (f : Nat) (x : List AV → Heap → Out) : Prop :=
  ∀ C : Ctx, C.P = P → ∀ args h v h' β w (args' : Array Value), x args h = some (v, h') → HRel C β h w → VRels β args args'.toList →
    (∃ x w', (callFunc f args').run C.P w = .ok (.value x) w' ∧ CallPost C β h w v h' (.returned x) w') ∨
    ((∃ fn, C.P.funcs[f]? = some fn ∧ fn.body.isSome = true ∧ fn.name ≠ "runtime.NumGoroutine") ∧ CallsIn (Wd none) 0 C.P f args' w (CallPost C β h w v h'))
def noX : XF := fun _ => none
theorem tabsOk_of (hm : P.follows .mixedOrders = true) (hf : T.fn = fnOf P) {x : XF} (hx : ∀ f y, x f = some y → SumOk P f y) : TabsOk P (T.withX x) :=
  ⟨hm, fun f fn h => fnOf_ok (by have h2 : T.fn f = some fn := h; rw [hf] at h2; exact h2), fun C hC f y h => hx f y h C hC⟩
end
/-! ### A function of so many arguments -/
section
def w0 (c : Nat → Rec → Heap → Out) (n : Nat) (rec : Rec) (args : List AV) (h : Heap) : Out := match args with | [] => c n rec h | _ => none
def w1 (c : Nat → Rec → AV → Heap → Out) (n : Nat) (rec : Rec) (args : List AV) (h : Heap) : Out := match args with | [a] => c n rec a h | _ => none
def w2 (c : Nat → Rec → AV → AV → Heap → Out) (n : Nat) (rec : Rec) (args : List AV) (h : Heap) : Out := match args with | [a, b] => c n rec a b h | _ => none
def w3 (c : Nat → Rec → AV → AV → AV → Heap → Out) (n : Nat) (rec : Rec) (args : List AV) (h : Heap) : Out := match args with | [a, b, x] => c n rec a b x h | _ => none
def w4 (c : Nat → Rec → AV → AV → AV → AV → Heap → Out) (n : Nat) (rec : Rec) (args : List AV) (h : Heap) : Out := match args with | [a, b, x, y] => c n rec a b x y h | _ => none
def w5 (c : Nat → Rec → AV → AV → AV → AV → AV → Heap → Out) (n : Nat) (rec : Rec) (args : List AV) (h : Heap) : Out := match args with | [a, b, x, y, z] => c n rec a b x y z h | _ => none
def w6 (c : Nat → Rec → AV → AV → AV → AV → AV → AV → Heap → Out) (n : Nat) (rec : Rec) (args : List AV) (h : Heap) : Out := match args with | [a, b, x, y, z, u] => c n rec a b x y z u h | _ => none
def w7 (c : Nat → Rec → AV → AV → AV → AV → AV → AV → AV → Heap → Out) (n : Nat) (rec : Rec) (args : List AV) (h : Heap) : Out := match args with | [a, b, x, y, z, u, v] => c n rec a b x y z u v h | _ => none
variable {P : Program} {T : Tabs} {n f : Nat}
theorem ok0 {c : Nat → Rec → Heap → Out} (h : ∀ rec hp, bodyR P T rec f [] hp = c n rec hp) : EntOk P T n f (w0 c) := fun rec args hp r e => by
  unfold w0 at e; split at e
  · rw [h]; exact e
  · cases e
theorem ok1 {c : Nat → Rec → AV → Heap → Out} (h : ∀ rec a hp, bodyR P T rec f [a] hp = c n rec a hp) : EntOk P T n f (w1 c) := fun rec args hp r e => by
  unfold w1 at e; split at e
  · rw [h]; exact e
  · cases e
theorem ok2 {c : Nat → Rec → AV → AV → Heap → Out} (h : ∀ rec a b hp, bodyR P T rec f [a, b] hp = c n rec a b hp) : EntOk P T n f (w2 c) := fun rec args hp r e => by
  unfold w2 at e; split at e
  · rw [h]; exact e
  · cases e
theorem ok3 {c : Nat → Rec → AV → AV → AV → Heap → Out} (h : ∀ rec a b x hp, bodyR P T rec f [a, b, x] hp = c n rec a b x hp) : EntOk P T n f (w3 c) := fun rec args hp r e => by
  unfold w3 at e; split at e
  · rw [h]; exact e
  · cases e
theorem ok4 {c : Nat → Rec → AV → AV → AV → AV → Heap → Out} (h : ∀ rec a b x y hp, bodyR P T rec f [a, b, x, y] hp = c n rec a b x y hp) : EntOk P T n f (w4 c) := fun rec args hp r e => by
  unfold w4 at e; split at e
  · rw [h]; exact e
  · cases e
theorem ok5 {c : Nat → Rec → AV → AV → AV → AV → AV → Heap → Out} (h : ∀ rec a b x y z hp, bodyR P T rec f [a, b, x, y, z] hp = c n rec a b x y z hp) : EntOk P T n f (w5 c) := fun rec args hp r e => by
  unfold w5 at e; split at e
  · rw [h]; exact e
  · cases e
theorem ok6 {c : Nat → Rec → AV → AV → AV → AV → AV → AV → Heap → Out} (h : ∀ rec a b x y z u hp, bodyR P T rec f [a, b, x, y, z, u] hp = c n rec a b x y z u hp) : EntOk P T n f (w6 c) := fun rec args hp r e => by
  unfold w6 at e; split at e
  · rw [h]; exact e
  · cases e
theorem ok7 {c : Nat → Rec → AV → AV → AV → AV → AV → AV → AV → Heap → Out} (h : ∀ rec a b x y z u v hp, bodyR P T rec f [a, b, x, y, z, u, v] hp = c n rec a b x y z u v hp) : EntOk P T n f (w7 c) := fun rec args hp r e => by
  unfold w7 at e; split at e
  · rw [h]; exact e
  · cases e
theorem okS {id : Nat} {y : Nat → Rec → Nat → List AV → List AV → Heap → Out} (h : ∀ rec l vs args hp, roundS P T rec l id vs args hp = y n rec l vs args hp) : YOk P T n id y :=
  fun rec l vs args hp r e => by rw [h]; exact e
end
end Go.Ai
/-
  THE ABSTRACT INTERPRETER, ITS USE: rows that a run may read; from the evaluator to a run that leaves all as it was.
-/
namespace Go.Ai
open Go

/-- A row that a run may read: its name, its place, what is known of it. -/
structure Row where
  l : Nat
  p : Pl
  cs : List AV
def rowsBe : List Row → Be
  | [], _ => none
  | r :: rs, l => if r.l = l then some r.p else rowsBe rs l
def RowOk (β : Be) (W : World) (r : Row) : Prop :=
  ∃ pre mid post elem fr, W.heap[r.p.b]? = some (.cells (pre ++ (mid ++ post)).toArray elem fr) ∧ pre.length = r.p.o ∧ (pre ++ (mid ++ post)).length = r.p.n ∧ VRels β r.cs mid ∧ all1 r.cs = true
def Apart : List Row → Prop
  | [] => True
  | r :: rs => (∀ s ∈ rs, s.l ≠ r.l ∧ s.p.b ≠ r.p.b) ∧ Apart rs
theorem rowsBe_mem : ∀ {rs : List Row} {l : Nat} {p : Pl}, rowsBe rs l = some p → ∃ r ∈ rs, r.l = l ∧ r.p = p
  | [], _, _, h => by simp [rowsBe] at h
  | r :: rs, l, p, h => by
    simp only [rowsBe] at h
    split at h
    · cases h; exact ⟨r, by simp, by assumption, rfl⟩
    · obtain ⟨s, hs, h1, h2⟩ := rowsBe_mem h; exact ⟨s, by simp [hs], h1, h2⟩
theorem rowsBe_of : ∀ {rs : List Row} {r : Row}, Apart rs → r ∈ rs → rowsBe rs r.l = some r.p
  | [], _, _, h => by cases h
  | s :: rs, r, ⟨ha, hr⟩, h => by
    simp only [rowsBe]
    rcases List.mem_cons.1 h with rfl | h
    · simp
    · rw [if_neg (Ne.symm (ha r h).1)]; exact rowsBe_of hr h
theorem apart_block : ∀ {rs : List Row} {r s : Row}, Apart rs → r ∈ rs → s ∈ rs → r.p.b = s.p.b → r.l = s.l
  | [], _, _, _, h, _, _ => by cases h
  | t :: rs, r, s, ⟨ha, hr⟩, h1, h2, hb => by
    rcases List.mem_cons.1 h1 with e1 | k1 <;> rcases List.mem_cons.1 h2 with e2 | k2
    · rw [e1, e2]
    · exact absurd (by rw [← hb, e1]) (ha s k2).2
    · exact absurd (by rw [hb, e2]) (ha r k1).2
    · exact apart_block hr k1 k2 hb
/-- THE RELATION AT THE START: rows, and nothing else. -/
theorem hrel_rows {C : Ctx} {rs : List Row} {h : Heap} {W : World} (hap : Apart rs) (hget : ∀ l o, h.get l = some o → ∃ r ∈ rs, r.l = l ∧ o = .tab r.cs) (hlt : ∀ r ∈ rs, r.l < h.next)
    (hok : ∀ r ∈ rs, RowOk (rowsBe rs) W r) (hg : ∀ g, kg C.P g = true → ∃ r ∈ rs, r.l = g ∧ r.p.b = g ∧ r.p.o = 0) : HRel C (rowsBe rs) h W := by
  refine ⟨fun l p e => ?_, fun l p e => ?_, fun l l' p p' o o' e e' _ _ hb => ?_, fun l p o e g => ?_, fun g hkg => ?_, fun l hl => ?_, fun l cs hl => ?_⟩
  · obtain ⟨r, hr, h1, _⟩ := rowsBe_mem e
    rw [← h1]; exact hlt r hr
  · obtain ⟨r, hr, _, h2⟩ := rowsBe_mem e
    obtain ⟨_, _, _, _, _, e1, _⟩ := hok r hr
    rw [← h2]
    exact (Array.getElem?_eq_some_iff.1 e1).1
  · obtain ⟨r, hr, h1, h2⟩ := rowsBe_mem e
    obtain ⟨s, hs, h3, h4⟩ := rowsBe_mem e'
    rw [← h1, ← h3]
    exact apart_block hap hr hs (by rw [h2, h4]; exact hb)
  · obtain ⟨r, hr, h1, rfl⟩ := hget l o g
    subst h1
    rw [rowsBe_of hap hr] at e
    cases e
    obtain ⟨pre, mid, post, elem, fr, e1, e2, e3, e4, e5⟩ := hok r hr
    exact ⟨pre, mid, post, elem, fr, e1, e2, e3, e4, e5⟩
  · obtain ⟨r, hr, h1, h2, h3⟩ := hg g hkg
    refine ⟨r.p.n, ?_⟩
    rw [← h1, rowsBe_of hap hr]
    have : r.p = ⟨g, 0, r.p.n⟩ := by rw [← h2, ← h3]
    rw [h1]; exact congrArg some this
  · cases hh : h.get l with
    | none => rfl
    | some o =>
      obtain ⟨r, hr, h1, _⟩ := hget l o hh
      have := hlt r hr
      omega
  · rcases hl with hl | hl
    · obtain ⟨_, _, _, h2⟩ := hget l _ hl; cases h2
    · obtain ⟨r, hr, _, h2⟩ := hget l _ hl
      cases h2
      obtain ⟨_, _, _, _, _, _, _, _, _, e5⟩ := hok r hr
      exact e5
/-- All that was there is as it was. -/
def Kept (W W' : World) : Prop := W.keptBut W' (fun _ => False) ∧ W.heap.size ≤ W'.heap.size ∧ (∀ b, b < W.heap.size → W'.heap[b]? = W.heap[b]?) ∧ ∀ a, a.block < W.heap.size → W'.frozen? a = W.frozen? a
theorem kept_of {W W' : World} (h1 : W'.os = W.os) (h2 : W'.output = W.output) (h3 : W.heap.size ≤ W'.heap.size) (h4 : ∀ b, b < W.heap.size → W'.heap[b]? = W.heap[b]?) (h5 : ∀ a, a.block < W.heap.size → W'.frozen? a = W.frozen? a) : Kept W W' := by
  refine ⟨⟨h1, h2, fun i hi => ?_⟩, h3, h4, h5⟩
  rw [h4 i hi]
  cases W.heap[i]? with
  | none => trivial
  | some o => cases o <;> simp
section
variable {P : Program} {T : Tabs} {D : DT} {Y : YT} {x : XF} {n m f : Nat}
theorem wd_wide : Wd none = Fence.wide := rfl
/-- FROM THE EVALUATOR TO THE RUN, where all rows that are known are only read. -/
theorem run_kept (ok : TabsOk P (T.withX x)) (hD : D.ok P T n) (hY : Y.ok P T n) {args : List AV} {args' : Array Value} {h h' : Heap} {v : AV} {β : Be} {W : World} (e : resR D Y x n m (.fn f) args h = some (v, h'))
    (r : HRel (ctxOf P (T.withX x)) β h W) (ha : VRels β args args'.toList) (hro : ∀ l p, β l = some p → ∃ cs, h.get l = some (.tab cs)) :
    Calls P f args' W fun e W' => ∃ β' x, e = .returned x ∧ VRel β' v x ∧ Kept W W' := by
  have hc := ((resR_ok ok hD hY m).fn f args h v h' β W args' e r ha).2
  have hc2 : CallsIn Fence.wide 0 P f args' W (CallPost (ctxOf P (T.withX x)) β h W v h') := hc
  refine (callsIn_wide.1 hc2).mono ?_
  rintro e' W' ⟨β', x, rfl, hv, hr, x1⟩
  exact ⟨β', x, rfl, hv, kept_of x1.os x1.output x1.size (fun b hb => x1.keep b hb fun l p hp _ => hro l p hp) x1.frz⟩
theorem run_true (ok : TabsOk P (T.withX x)) (hD : D.ok P T n) (hY : Y.ok P T n) {args : List AV} {args' : Array Value} {h h' : Heap} {β : Be} {W : World} (e : resR D Y x n m (.fn f) args h = some (.bool true, h'))
    (r : HRel (ctxOf P (T.withX x)) β h W) (ha : VRels β args args'.toList) (hro : ∀ l p, β l = some p → ∃ cs, h.get l = some (.tab cs)) :
    Calls P f args' W fun e W' => e = .returned (.bool true) ∧ Kept W W' :=
  (run_kept ok hD hY e r ha hro).mono fun _ _ ⟨_, _, he, hv, hk⟩ => by rw [bool_inv hv] at he; exact ⟨he, hk⟩
end
end Go.Ai
/-
  THE ABSTRACT INTERPRETER, SUMMARIES: a call that was reckoned once, on tables alone, is known everywhere.
-/
namespace Go.Ai
open Go

/-- no place in it -/
def flat1 : AV → Bool
  | .bool _ => true
  | .int _ _ => true
  | .str _ => true
  | .nilp => true
  | .nils => true
  | .nilm => true
  | .nilf => true
  | .nili => true
  | _ => false
def flats : List AV → Bool
  | [] => true
  | a :: l => bif flat1 a then flats l else false
def flat : AV → Bool
  | .agg l => flats l
  | .tup l => flats l
  | a => flat1 a
theorem flat1_rel {β β' : Be} {a : AV} {v : Value} (h : flat1 a = true) (r : VRel β a v) : VRel β' a v := by
  cases a <;> simp only [flat1, Bool.false_eq_true] at h <;> simpa only [VRel] using r
theorem flats_rel {β β' : Be} : ∀ {l : List AV} {vs : List Value}, flats l = true → VRels β l vs → VRels β' l vs
  | [], _, _, r => by simpa only [VRels] using r
  | a :: l, _, h, r => by
    simp only [flats] at h
    obtain ⟨h1, h2⟩ := bf h
    simp only [VRels] at r ⊢
    obtain ⟨v, vs, e, r1, r2⟩ := r
    exact ⟨v, vs, e, flat1_rel h1 r1, flats_rel h2 r2⟩
theorem flat_rel {β β' : Be} {a : AV} {v : Value} (h : flat a = true) (r : VRel β a v) : VRel β' a v := by
  unfold flat at h
  split at h
  · simp only [VRel] at r ⊢; obtain ⟨x, e, r1⟩ := r; exact ⟨x, e, flats_rel h r1⟩
  · simp only [VRel] at r ⊢; obtain ⟨x, e, r1⟩ := r; exact ⟨x, e, flats_rel h r1⟩
  · exact flat1_rel h r
def eqArgs : List AV → List AV → Bool
  | [], [] => true
  | a :: l, b :: r => bif same a b then eqArgs l r else false
  | _, _ => false
theorem eqArgs_eq : ∀ {a b : List AV}, eqArgs a b = true → a = b
  | [], [], _ => rfl
  | [], _ :: _, h => by simp [eqArgs] at h
  | _ :: _, [], h => by simp [eqArgs] at h
  | a :: l, b :: r, h => by
    simp only [eqArgs] at h
    obtain ⟨h1, h2⟩ := bf h
    rw [same_eq h1, eqArgs_eq h2]
/-- tables, by the numbers of their variables -/
def tabsIn (h : Heap) : List (Nat × List AV) → Bool
  | [] => true
  | (g, cs) :: l => bif (match h.get g with | some (.tab ds) => sames ds cs | _ => false) then tabsIn h l else false
theorem tabsIn_get {h : Heap} : ∀ {l : List (Nat × List AV)}, tabsIn h l = true → ∀ g cs, (g, cs) ∈ l → h.get g = some (.tab cs)
  | [], _, _, _, hm => by cases hm
  | (g0, cs0) :: l, hh, g, cs, hm => by
    simp only [tabsIn] at hh
    obtain ⟨h1, h2⟩ := bf hh
    rcases List.mem_cons.1 hm with e | hm
    · cases e
      split at h1
      · rename_i ds hg; rw [hg, sames_eq h1]
      · cases h1
    · exact tabsIn_get h2 g cs hm
def sums (rows : List (Nat × List AV)) : List (List AV × AV) → List AV → Heap → Out
  | [], _, _ => none
  | (a, v) :: l, args, h => bif eqArgs args a then (bif tabsIn h rows then some (v, h) else none) else sums rows l args h
theorem sums_inv {rows : List (Nat × List AV)} {args : List AV} {h h' : Heap} {v : AV} : ∀ {l : List (List AV × AV)}, sums rows l args h = some (v, h') → (args, v) ∈ l ∧ tabsIn h rows = true ∧ h' = h
  | [], e => by simp [sums] at e
  | (a, u) :: l, e => by
    simp only [sums] at e
    cases ha : eqArgs args a with
    | true =>
      rw [ha] at e
      obtain ⟨h1, e⟩ := bif_inv e
      cases e
      rw [eqArgs_eq ha]
      exact ⟨by simp, h1, rfl⟩
    | false =>
      rw [ha] at e
      obtain ⟨h1, h2, h3⟩ := sums_inv (l := l) e
      exact ⟨by simp [h1], h2, h3⟩
theorem HRel.kept {C : Ctx} {β : Be} {h : Heap} {w w' : World} (r : HRel C β h w) (hs : w.heap.size ≤ w'.heap.size) (hk : ∀ b, b < w.heap.size → w'.heap[b]? = w.heap[b]?) : HRel C β h w' :=
  ⟨r.dom, fun l p e => Nat.lt_of_lt_of_le (r.lt l p e) hs, r.inj, fun l p o e g => (r.obj l p o e g).mono (Sub.refl β) (hk _ (r.lt l p e)), r.glob, r.fin, r.rows⟩
section
variable {P : Program} {T : Tabs} {D : DT} {Y : YT} {x : XF} {n m f : Nat}
/-- the base heap: the tables alone -/
def baseHeap (next : Nat) : List (Nat × List AV) → Heap
  | [] => ⟨next, .e⟩
  | (g, cs) :: l => (baseHeap next l).set g (.tab cs)
theorem baseHeap_next (next : Nat) : ∀ l, (baseHeap next l).next = next
  | [] => rfl
  | (g, cs) :: l => by simp [baseHeap, baseHeap_next next l]
theorem baseHeap_get {next : Nat} : ∀ {l : List (Nat × List AV)} {g : Nat} {o : Obj}, (baseHeap next l).get g = some o → ∃ cs, (g, cs) ∈ l ∧ o = .tab cs
  | [], g, o, h => by simp [baseHeap, Heap.get, Tr.get] at h
  | (g0, cs0) :: l, g, o, h => by
    simp only [baseHeap, Heap.get_set] at h
    split at h
    · subst_vars; cases h; exact ⟨cs0, by simp, rfl⟩
    · obtain ⟨cs, h1, h2⟩ := baseHeap_get h; exact ⟨cs, by simp [h1], h2⟩
theorem baseHeap_has {next : Nat} : ∀ {l : List (Nat × List AV)} {g : Nat} {cs : List AV}, (g, cs) ∈ l → ∃ ds, (baseHeap next l).get g = some (.tab ds)
  | [], _, _, h => by cases h
  | (g0, cs0) :: l, g, cs, h => by
    simp only [baseHeap, Heap.get_set]
    split
    · exact ⟨cs0, rfl⟩
    · rename_i hne
      rcases List.mem_cons.1 h with e | h
      · cases e; exact absurd rfl hne
      · exact baseHeap_has h
theorem closed_ok (ok : TabsOk P (T.withX x)) (hD : D.ok P T n) (hY : Y.ok P T n) {rows : List (Nat × List AV)} {next : Nat} {l : List (List AV × AV)}
    (hrows : ∀ g cs, (g, cs) ∈ rows → kg P g = true ∧ g < next ∧ flats cs = true) (hall : ∀ g, kg P g = true → ∃ cs, (g, cs) ∈ rows)
    (hl : ∀ a v, (a, v) ∈ l → flats a = true ∧ flat v = true ∧ ∃ h', resR D Y x n m (.fn f) a (baseHeap next rows) = some (v, h')) : SumOk P f (sums rows l) := by
  rintro C rfl args h v h' β w args' e r ha
  obtain ⟨h1, h2, rfl⟩ := sums_inv e
  obtain ⟨hfa, hfv, hb, hrun⟩ := hl args v h1
  have hget := tabsIn_get h2
  -- the tables alone
  have hmem : ∀ g, (∃ cs, (g, cs) ∈ rows) ↔ kg C.P g = true := fun g => ⟨fun ⟨cs, hc⟩ => (hrows g cs hc).1, hall g⟩
  let β0 : Be := fun g => if kg C.P g = true then β g else none
  have hsub : Sub β0 β := fun g p e => by
    simp only [β0] at e
    split at e
    · exact e
    · cases e
  have hk0 : ∀ g p, β0 g = some p → kg C.P g = true ∧ β g = some p := fun g p e => by
    simp only [β0] at e
    split at e
    · exact ⟨by assumption, e⟩
    · cases e
  have r0 : HRel (ctxOf C.P (T.withX x)) β0 (baseHeap next rows) w := by
    refine ⟨fun g p e => ?_, fun g p e => r.lt g p (hsub g p e), fun g g' p p' o o' e1 e2 g1 g2 hb => ?_, fun g p o e g1 => ?_, fun g hg => ?_, fun g hg => ?_, fun g cs hg => ?_⟩
    · rw [baseHeap_next]
      obtain ⟨cs, hc⟩ := hall g (hk0 g p e).1
      exact (hrows g cs hc).2.1
    · obtain ⟨cs, hc⟩ := hall g (hk0 g p e1).1
      obtain ⟨cs', hc'⟩ := hall g' (hk0 g' p' e2).1
      exact r.inj g g' p p' _ _ (hsub _ _ e1) (hsub _ _ e2) (hget g cs hc) (hget g' cs' hc') hb
    · obtain ⟨cs, hc, rfl⟩ := baseHeap_get g1
      have hre := r.obj g p _ (hsub _ _ e) (hget g cs hc)
      obtain ⟨pre, mid, post, elem, fr, e1, e2, e3, e4, e5⟩ := hre
      exact ⟨pre, mid, post, elem, fr, e1, e2, e3, flats_rel (hrows g cs hc).2.2 e4, e5⟩
    · obtain ⟨n, hn⟩ := r.glob g hg
      exact ⟨n, (if_pos hg).trans hn⟩
    · cases hh : (baseHeap next rows).get g with
      | none => rfl
      | some o =>
        obtain ⟨cs, hc, _⟩ := baseHeap_get hh
        have := (hrows g cs hc).2.1
        rw [baseHeap_next] at hg
        omega
    · rcases hg with hg | hg
      · obtain ⟨_, _, h3⟩ := baseHeap_get hg; cases h3
      · obtain ⟨cs', hc, h3⟩ := baseHeap_get hg
        cases h3
        exact r.rows g cs (.inr (hget g cs hc))
  obtain ⟨hfn, hc⟩ := (resR_ok ok hD hY m).fn f args _ v hb β0 w args' hrun r0 (flats_rel hfa ha)
  refine .inr ⟨hfn, hc.mono ?_⟩
  rintro e' w' ⟨β', x, rfl, hv, _, x1⟩
  have hkeep : ∀ b, b < w.heap.size → w'.heap[b]? = w.heap[b]? := fun b hb => x1.keep b hb fun g p e _ => by
    obtain ⟨cs, hc⟩ := hall g (hk0 g p e).1
    exact baseHeap_has hc
  exact ⟨β, x, rfl, flat_rel hfv hv, r.kept x1.size hkeep, ⟨Sub.refl β, fun _ _ e => .inl e, Nat.le_refl _, x1.size, fun b hb _ => hkeep b hb, fun _ _ _ _ e => e, fun _ _ _ => rfl, x1.os, x1.tape, x1.output, x1.frz⟩⟩
end
end Go.Ai
