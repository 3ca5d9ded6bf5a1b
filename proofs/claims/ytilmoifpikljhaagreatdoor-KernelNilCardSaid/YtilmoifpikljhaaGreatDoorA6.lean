/-
  THE ABSTRACT INTERPRETER, REGIONS THAT DRAW THEIR ORDER, 1: what an operation that does not act is: it depends on no heap, or it loads, or it lays a new object.
-/
import Derived.Test.YtilmoifpikljhaaGreatDoorA5
set_option linter.unusedVariables false
set_option linter.unusedSimpArgs false
namespace Go.Ai
open Go

def pair (v : AV) (h : Heap) : Option (AV × Heap) := some (v, h)
/-- A step that looks at no heap. -/
def P1 (F : (AV → Option (AV × Heap)) → Option (AV × Heap)) : Prop := (∃ v, ∀ k, F k = k v) ∨ (∀ k, F k = none)
section
variable {P : Program} {rec : Rec} {tm : List AV}
theorem P1.none : P1 fun _ => none := .inr fun _ => rfl
theorem P1.ret (v : AV) : P1 fun k => k v := .inl ⟨v, fun _ => rfl⟩
theorem P1.bif (b : Bool) {F : (AV → Option (AV × Heap)) → Option (AV × Heap)} (h : P1 F) : P1 fun k => bif b then F k else Option.none := by
  cases b
  · exact P1.none
  · exact h
theorem P1.get1 (o : Option AV) : P1 fun k => get1 o k := by
  cases o with
  | none => exact P1.none
  | some v => exact P1.ret v
theorem P1.getL (o : Option (List AV)) {F : List AV → (AV → Option (AV × Heap)) → Option (AV × Heap)} (h : ∀ vs, P1 (F vs)) : P1 fun k => getL o fun vs => F vs k := by
  cases o with
  | none => exact P1.none
  | some v => exact h v
theorem P1.nil? (x : AV) : P1 fun k => nil? x k := by
  cases x <;> first | exact P1.none | exact P1.ret _
theorem P1.fa (o : Nat) (x : AV) : P1 fun k => fa o x k := by
  cases x <;> first | exact P1.none | exact P1.ret _
theorem P1.ixA (n s : Nat) (x i : AV) : P1 fun k => ixA n s x i k := by
  unfold Ai.ixA
  cases x <;> cases natOf i <;> first | exact P1.none | exact P1.bif _ (P1.ret _)
theorem P1.ixS (s : Nat) (x i : AV) : P1 fun k => ixS s x i k := by
  unfold Ai.ixS
  cases x <;> cases natOf i <;> first | exact P1.none | exact P1.bif _ (P1.bif _ (P1.ret _))
theorem P1.part1 (x : AV) (o : Nat) : P1 fun k => part1 x o k := by
  unfold Ai.part1
  cases x <;> first | exact P1.none | exact P1.get1 _
theorem P1.partN (n : Nat) (x : AV) (o : Nat) : P1 fun k => partN n x o k := by
  unfold Ai.partN
  cases x <;> first | exact P1.none | exact P1.getL _ fun _ => P1.ret _
theorem P1.ixG (a : Bool) (n s : Nat) (x i : AV) : P1 fun k => ixG a n s x i k := by
  unfold Ai.ixG
  cases natOf i with
  | none => exact P1.none
  | some j => cases a
              · exact P1.bif _ (P1.part1 _ _)
              · exact P1.bif _ (P1.partN _ _ _)
theorem P1.ixT (x i : AV) : P1 fun k => ixT x i k := by
  unfold Ai.ixT
  cases x <;> cases natOf i <;> first | exact P1.none | skip
  rename_i s j
  show P1 fun k => (match nth s j with | some b => k (.int .u8 (.ofNat b)) | Option.none => Option.none)
  cases nth s j with
  | none => exact P1.none
  | some b => exact P1.ret _
theorem P1.ext (x : AV) (i : Nat) : P1 fun k => ext x i k := by
  unfold Ai.ext
  cases x <;> first | exact P1.none | exact P1.get1 _
theorem P1.cvI (d : IntKind) (x : AV) : P1 fun k => cvI d x k := by
  unfold Ai.cvI
  cases x <;> first | exact P1.none | exact P1.ret _
theorem P1.mm (b : Bool) (x y : AV) : P1 fun k => mm b x y k := by
  unfold Ai.mm
  cases x <;> cases y <;> first | exact P1.none | exact P1.bif _ (P1.ret _)
theorem P1.lenS (x : AV) : P1 fun k => lenS x k := by
  unfold Ai.lenS
  cases x <;> first | exact P1.none | exact P1.ret _
theorem P1.lenT (x : AV) : P1 fun k => lenT x k := by
  unfold Ai.lenT
  cases x <;> first | exact P1.none | exact P1.ret _
theorem P1.yes (b : Bool) (o : Option Bool) : P1 fun k => yes b o k := by
  unfold Ai.yes
  cases o <;> first | exact P1.none | exact P1.ret _
theorem P1.eqOp (b : Bool) (t : TypeId) (x y : AV) : P1 fun k => eqOp P b t x y k := by
  unfold Ai.eqOp
  cases P.underlying t with
  | none => exact P1.none
  | some d =>
    cases d <;> first | exact P1.none | exact P1.yes _ _ | skip
    cases kindsT P 4 t with
    | none => exact P1.none
    | some ks => exact P1.bif _ (P1.yes _ _)
theorem P1.slS (s : Nat) (x : AV) (lo hi mx : Option AV) : P1 fun k => slS s x lo hi mx k := by
  unfold Ai.slS
  cases x <;> first | exact P1.none | skip
  · cases h1 : optNat 0 lo with
    | none => simp only [h1]; exact P1.none
    | some a =>
      cases h2 : optNat 0 hi with
      | none => simp only [h1, h2]; rcases a with _ | a <;> exact P1.none
      | some b => cases mx <;> rcases a with _ | a <;> rcases b with _ | b <;> simp only [h1, h2] <;> first | exact P1.none | exact P1.ret _
  · rename_i l o n c z
    refine P1.bif _ ?_
    cases h1 : optNat 0 lo with
    | none => exact P1.none
    | some a =>
      cases h2 : optNat n hi with
      | none => exact P1.none
      | some b =>
        cases mx with
        | none => exact P1.bif _ (P1.bif _ (P1.ret _))
        | some m =>
          cases h3 : natOf m with
          | none => simp only [h3]; exact P1.none
          | some m =>
            cases hi with
            | none => simp only [h3]; exact P1.none
            | some q => simp only [h3]; exact P1.bif _ (P1.bif _ (P1.bif _ (P1.ret _)))
theorem P1.slT (x : AV) (lo hi : Option AV) : P1 fun k => slT x lo hi k := by
  unfold Ai.slT
  cases x <;> first | exact P1.none | skip
  rename_i s
  cases h1 : optNat 0 lo with
  | none => simp only [h1]; exact P1.none
  | some a =>
    cases h2 : optNat s.length hi with
    | none => simp only [h1, h2]; exact P1.none
    | some b =>
      simp only [h1, h2]
      refine P1.bif _ (P1.bif _ ?_)
      cases sub s a (b.sub a) with
      | none => exact P1.none
      | some r => exact P1.ret _
theorem P1.aggB (t : TypeId) {F G : (AV → Option (AV × Heap)) → Option (AV × Heap)} (hf : P1 F) (hg : P1 G) : P1 fun k => aggB P t (F k) (G k) := by
  unfold Ai.aggB
  cases P.underlying t with
  | none => exact P1.none
  | some d => cases d <;> first | exact hf | exact hg
theorem P1.fill (place : Nat → Option (Nat × Nat)) {F : List AV → (AV → Option (AV × Heap)) → Option (AV × Heap)} (h : ∀ vs, P1 (F vs)) : ∀ (l : List (Nat × Operand)) (cells : List AV), P1 fun k => fill P place tm cells l fun vs => F vs k
  | [], cells => h cells
  | (i, x) :: l, cells => by
    show P1 fun k => (match place i with
    | Option.none => Option.none
    | some (off, size) => Ai.getL (cellsOf (evX P tm x)) fun vs => _root_.cond (Nat.beq vs.length size) (Ai.getL (over cells off vs) fun cs => Ai.fill P place tm cs l fun vs => F vs k) Option.none)
    cases place i with
    | none => exact P1.none
    | some q => exact P1.getL _ fun vs => P1.bif _ (P1.getL _ fun cs => P1.fill place h l cs)
theorem P1.use {F : (AV → Option (AV × Heap)) → Option (AV × Heap)} (p : P1 F) {h : Heap} {v : AV} {h' : Heap} (e : F (fun v => some (v, h)) = some (v, h')) : h' = h ∧ ∀ h2, F (fun v => some (v, h2)) = some (v, h2) := by
  rcases p with ⟨u, hu⟩ | hn
  · rw [hu] at e; cases e; exact ⟨rfl, fun h2 => hu _⟩
  · rw [hn] at e; cases e
end
end Go.Ai
/-
  THE ABSTRACT INTERPRETER, REGIONS THAT DRAW THEIR ORDER, 2: an operation looks at its operands alone; the kinds of those that do not act.
-/
namespace Go.Ai
open Go

section
variable {R : Type} {P : Program} {rec : Rec} {tm tm' : List AV}
theorem fill_congr {place : Nat → Option (Nat × Nat)} : ∀ (parts : List (Nat × Operand)) (cells : List AV) (k : List AV → Option R), (∀ p ∈ parts, evX P tm p.2 = evX P tm' p.2) →
    fill P place tm cells parts k = fill P place tm' cells parts k
  | [], _, _, _ => rfl
  | (i, x) :: rest, cells, k, h => by
    have hx := h (i, x) (by simp)
    have hr : ∀ cs, fill P place tm cs rest k = fill P place tm' cs rest k := fun cs => fill_congr rest cs k fun p hp => h p (by simp [hp])
    simp only [fill, hx, hr]
theorem evOp_congr (op : Op) (hp : Heap) (k : AV → Heap → Option R) (h : ∀ x ∈ op.operands, evX P tm x = evX P tm' x) : evOp P rec tm op hp k = evOp P rec tm' op hp k := by
  have mapc : ∀ (l : Array Operand), (∀ x ∈ l, evX P tm x = evX P tm' x) → l.toList.map (evX P tm) = l.toList.map (evX P tm') := fun l hl => List.map_congr_left fun x hx => hl x (by simpa using hx)
  have optc : ∀ (o : Option Operand), (∀ x ∈ o, evX P tm x = evX P tm' x) → o.map (evX P tm) = o.map (evX P tm') := fun o ho => by
    cases o with
    | none => rfl
    | some x => simp [ho x (by simp)]
  cases op <;> simp only [Op.operands] at h <;> simp only [evOp]
  case move x => rw [h x (by simp)]
  case assign x => rw [h x (by simp)]
  case pick c a b => rw [h c (by simp), h a (by simp), h b (by simp)]
  case box t x => rw [h x (by simp)]
  case build t parts =>
    have hc : ∀ (pl : Nat → Option (Nat × Nat)) (cs : List AV) (k : List AV → Option R), fill P pl tm cs parts.toList k = fill P pl tm' cs parts.toList k := fun pl cs k => fill_congr _ _ _ fun p hp => h p.2 (by
      simp only [List.mem_toArray, List.mem_map]; exact ⟨p, hp, rfl⟩)
    simp only [hc]
  case buildSlice t n parts =>
    have hc : ∀ (pl : Nat → Option (Nat × Nat)) (cs : List AV) (k : List AV → Option R), fill P pl tm cs parts.toList k = fill P pl tm' cs parts.toList k := fun pl cs k => fill_congr _ _ _ fun p hp => h p.2 (by
      simp only [List.mem_toArray, List.mem_map]; exact ⟨p, hp, rfl⟩)
    simp only [hc]
  case load t x => rw [h x (by simp)]
  case store t x y => rw [h x (by simp), h y (by simp)]
  case nilCheck x => rw [h x (by simp)]
  case binOp op t x y yt => rw [h x (by simp), h y (by simp)]
  case unOp op t x => rw [h x (by simp)]
  case convert s d x => rw [h x (by simp)]
  case makeFunc fn a b => rw [mapc a fun x hx => h x (by simp [hx]), mapc b fun x hx => h x (by simp [hx])]
  case makeMap t r =>
    cases r with
    | none => rfl
    | some x => simp only [h x (by simp)]
  case makeSlice t n c => rw [h n (by simp), h c (by simp)]
  case slice t x lo hi mx =>
    rw [h x (by simp), optc lo fun x hx => h x (by cases lo <;> simp_all), optc hi fun x hx => h x (by cases hi <;> simp_all), optc mx fun x hx => h x (by cases mx <;> simp_all)]
  case fieldAddr s x f => rw [h x (by simp)]
  case field t x f => rw [h x (by simp)]
  case indexAddr t x i => rw [h x (by simp), h i (by simp)]
  case index t x i => rw [h x (by simp), h i (by simp)]
  case lookup t x i ok => rw [h x (by simp), h i (by simp)]
  case mapUpdate t m i x => rw [h m (by simp), h i (by simp), h x (by simp)]
  case extract t i => rw [h t (by simp)]
  case call c =>
    simp only [Call.operands] at h
    cases hc : c.callee with
    | value f => simp only [h f (by simp [hc]), mapc c.args fun x hx => h x (by simp [hx])]
    | builtin b => simp only [mapc c.args fun x hx => h x (by simp [hx])]
    | invoke r m => rfl

/-- Which it is: is it carried out? -/
def wantB (ops : Array Oper) (o : Oper) (tm : List AV) : Option Bool := want ops o tm (some true) (some false)
theorem want_eq (ops : Array Oper) (o : Oper) (tm : List AV) (x y : Option R) : want ops o tm x y = (match wantB ops o tm with | some true => x | some false => y | none => none) := by
  unfold wantB want
  cases o.guard with
  | none => rfl
  | some gw =>
    obtain ⟨j, w⟩ := gw
    simp only
    cases (ops[j]?).bind (·.dst) with
    | none => rfl
    | some d =>
      simp only
      unfold wantV
      cases tget tm d <;> try rfl
      cases w <;> rename_i b <;> cases b <;> rfl
theorem wantB_congr (ops : Array Oper) (o : Oper) (h : ∀ j w d, o.guard = some (j, w) → (ops[j]?).bind (·.dst) = some d → tget tm d = tget tm' d) : wantB ops o tm = wantB ops o tm' := by
  unfold wantB want
  cases hg : o.guard with
  | none => rfl
  | some gw =>
    obtain ⟨j, w⟩ := gw
    simp only
    cases hd : (ops[j]?).bind (·.dst) with
    | none => rfl
    | some d => simp only; rw [h j w d hg hd]
/-- The slots that an operation looks at. -/
theorem evX_restr {ks : List Nat} (x : Operand) (h : ∀ t, x = .tmp t → t ∈ ks) (ht : ∀ t, t ∈ ks → tget tm t = tget tm' t) : evX P tm x = evX P tm' x := by
  cases x with
  | tmp t => exact ht t (h t rfl)
  | const v => rfl
  | global g => rfl
  | func f => rfl

/-! ### Those that do not act -/
/-- how a new object is named -/
inductive NameOf : (Nat → AV) → Prop where
  | ptr : NameOf fun l => .ptr l 0
  | slice (n : Nat) (c : Option Nat) (sz : Nat) : NameOf fun l => .slice l 0 n c sz
  | map : NameOf .map
/-- cells that stand for something wherever these operands do -/
def RealL (P : Program) (xs : List Operand) (tm : List AV) (cs : List AV) : Prop := ∀ β, (∀ x ∈ xs, ∃ v, VRel β (evX P tm x) v) → ∃ us, VRels β cs us
def ReO (P : Program) (xs : List Operand) (tm : List AV) : Obj → Prop
  | .cells cs => RealL P xs tm cs ∧ all1 cs = true
  | .map [] => True
  | _ => False
variable {xs : List Operand}
theorem RealL.zero {t : TypeId} {z : List AV} (h : zeroT P t = some z) : RealL P xs tm z := fun β _ => by
  obtain ⟨i, v, _, _, hc, _⟩ := zeroT_run h
  exact ⟨_, cellsOf_rel (ofV_rel v) hc⟩
theorem RealL.operand {x : Operand} {cs : List AV} (hx : x ∈ xs) (h : cellsOf (evX P tm x) = some cs) : RealL P xs tm cs := fun β hr => by
  obtain ⟨v, hv⟩ := hr x hx
  exact ⟨_, cellsOf_rel hv h⟩
theorem RealL.over {cs vs r : List AV} {o : Nat} (h1 : RealL P xs tm cs) (h2 : RealL P xs tm vs) (h : over cs o vs = some r) : RealL P xs tm r := fun β hr => by
  obtain ⟨_, rfl⟩ := over_eq _ _ _ _ h
  obtain ⟨us, hu⟩ := h1 β hr
  obtain ⟨ws, hw⟩ := h2 β hr
  exact ⟨_, (hu.take o).append (hw.append (hu.drop _))⟩
theorem RealL.rep {z : List AV} (h : RealL P xs tm z) (n : Nat) : RealL P xs tm (rep n z) := fun β hr => by
  obtain ⟨us, hu⟩ := h β hr
  exact ⟨_, hu.rep n⟩
def P2 (Re : Obj → Prop) (F : Heap → (AV → Heap → Option (AV × Heap)) → Option (AV × Heap)) : Prop :=
  (∃ f o, NameOf f ∧ Re o ∧ ∀ h k, F h k = k (f h.next) (h.push o)) ∨ ∀ h k, F h k = none
section
variable {Re : Obj → Prop}
theorem P2.none : P2 Re fun _ _ => none := .inr fun _ _ => rfl
theorem P2.bif (b : Bool) {F : Heap → (AV → Heap → Option (AV × Heap)) → Option (AV × Heap)} (h : P2 Re F) : P2 Re fun hp k => bif b then F hp k else Option.none := by
  cases b
  · exact P2.none
  · exact h
theorem P2.mk {cs : List AV} (h : all1 cs = true → Re (.cells cs)) : P2 Re fun h k => mk h cs k := by
  unfold Ai.mk
  cases hc : all1 cs with
  | false => exact P2.none
  | true => exact .inl ⟨_, .cells cs, .ptr, h hc, fun _ _ => rfl⟩
theorem P2.mkSlice {cs : List AV} (h : all1 cs = true → Re (.cells cs)) (n sz : Nat) (c : Option Nat) : P2 Re fun h k => mkSlice h cs n sz c k := by
  unfold Ai.mkSlice
  cases hc : all1 cs with
  | false => exact P2.none
  | true => exact .inl ⟨_, .cells cs, .slice n c sz, h hc, fun _ _ => rfl⟩
theorem P2.newMap (h : Re (.map [])) : P2 Re fun h k => newMap h k := .inl ⟨_, .map [], .map, h, fun _ _ => rfl⟩
theorem P2.getL (o : Option (List AV)) {F : List AV → Heap → (AV → Heap → Option (AV × Heap)) → Option (AV × Heap)} (h : ∀ vs, o = some vs → P2 Re (F vs)) : P2 Re fun hp k => Ai.getL o fun vs => F vs hp k := by
  cases o with
  | none => exact P2.none
  | some v => exact h v rfl
end
theorem P2.fill {Re : Obj → Prop} (place : Nat → Option (Nat × Nat)) {F : List AV → Heap → (AV → Heap → Option (AV × Heap)) → Option (AV × Heap)} (h : ∀ vs, RealL P xs tm vs → P2 Re (F vs)) :
    ∀ (l : List (Nat × Operand)) (cells : List AV), (∀ p ∈ l, p.2 ∈ xs) → RealL P xs tm cells → P2 Re fun hp k => Ai.fill P place tm cells l fun vs => F vs hp k
  | [], cells, _, hr => h cells hr
  | (i, x) :: l, cells, hl, hr => by
    show P2 Re fun hp k => (match place i with
    | Option.none => Option.none
    | some (off, size) => Ai.getL (cellsOf (evX P tm x)) fun vs => _root_.cond (Nat.beq vs.length size) (Ai.getL (over cells off vs) fun cs => Ai.fill P place tm cs l fun vs => F vs hp k) Option.none)
    cases place i with
    | none => exact P2.none
    | some q => exact P2.getL _ fun vs hvs => P2.bif _ (P2.getL _ fun cs hcs => P2.fill place h l cs (fun p hp => hl p (by simp [hp])) (hr.over (RealL.operand (hl (i, x) (by simp)) hvs) hcs))
theorem P2.mks {z : List AV} (hz : RealL P xs tm z) (sz b : Nat) (n c : AV) : P2 (ReO P xs tm) fun h k => mks z sz b h n c k := by
  unfold Ai.mks
  cases natOf n <;> cases natOf c <;> first | exact P2.none | exact P2.bif _ (P2.bif _ (P2.bif _ (P2.mkSlice (fun hc => ⟨hz.rep _, hc⟩) _ _ _)))
theorem P2.use {Re : Obj → Prop} {F : Heap → (AV → Heap → Option (AV × Heap)) → Option (AV × Heap)} (p : P2 Re F) {h : Heap} {v : AV} {h' : Heap} (e : F h pair = some (v, h')) :
    ∃ f o, NameOf f ∧ Re o ∧ v = f h.next ∧ h' = h.push o ∧ ∀ h2, F h2 pair = some (f h2.next, h2.push o) := by
  rcases p with ⟨f, o, hf, ht, hu⟩ | hn
  · rw [hu] at e
    cases e
    exact ⟨f, o, hf, ht, rfl, rfl, fun h2 => hu _ _⟩
  · rw [hn] at e; cases e
/-- What an operation that does not act is. -/
def Pure (P : Program) (rec : Rec) (tm : List AV) (op : Op) (v : AV) : Prop := ∀ h, evOp P rec tm op h pair = some (v, h)
def Lays (P : Program) (rec : Rec) (tm : List AV) (op : Op) (f : Nat → AV) (o : Obj) : Prop := NameOf f ∧ ReO P op.operands.toList tm o ∧ ∀ h, evOp P rec tm op h pair = some (f h.next, h.push o)
theorem of_P1 {op : Op} {F : (AV → Option (AV × Heap)) → Option (AV × Heap)} (p : P1 F) (hF : ∀ h, evOp P rec tm op h pair = F fun v => some (v, h)) {h : Heap} {v : AV} {h' : Heap} (e : evOp P rec tm op h pair = some (v, h')) :
    h' = h ∧ Pure P rec tm op v := by
  rw [hF] at e
  obtain ⟨h1, h2⟩ := p.use e
  exact ⟨h1, fun h => by rw [hF]; exact h2 h⟩
theorem of_P2 {op : Op} {F : Heap → (AV → Heap → Option (AV × Heap)) → Option (AV × Heap)} (p : P2 (ReO P op.operands.toList tm) F) (hF : ∀ h, evOp P rec tm op h pair = F h pair) {h : Heap} {v : AV} {h' : Heap} (e : evOp P rec tm op h pair = some (v, h')) :
    ∃ f o, v = f h.next ∧ h' = h.push o ∧ Lays P rec tm op f o := by
  rw [hF] at e
  obtain ⟨f, o, h1, h2, h3, h4, h5⟩ := p.use e
  exact ⟨f, o, h3, h4, h1, h2, fun h => by rw [hF]; exact h5 h⟩
theorem ld_pair {h : Heap} {p : AV} {v : AV} {h1 h' : Heap} (e : ld h p (fun v => some (v, h1)) = some (v, h')) : h' = h1 := by
  unfold ld at e
  split at e
  · obtain ⟨cs, _, e⟩ := cellsAt_inv e
    obtain ⟨u, _, e⟩ := get1_inv e
    cases e; rfl
  · cases e
theorem ldn_pair {n : Nat} {h : Heap} {p : AV} {v : AV} {h1 h' : Heap} (e : ldn n h p (fun v => some (v, h1)) = some (v, h')) : h' = h1 := by
  unfold ldn at e
  split at e
  · obtain ⟨cs, _, e⟩ := cellsAt_inv e
    obtain ⟨u, _, e⟩ := getL_inv e
    cases e; rfl
  · cases e
theorem kinds (op : Op) (hne : isEff P op = false) {h : Heap} {v : AV} {h' : Heap} (e : evOp P rec tm op h pair = some (v, h')) :
    (h' = h ∧ Pure P rec tm op v) ∨ (h' = h ∧ ∃ t a, op = .load t a) ∨ ∃ f o, v = f h.next ∧ h' = h.push o ∧ Lays P rec tm op f o := by
  cases op <;> (try (simp [isEff] at hne; done)) <;> (try (simp only [evOp] at e; cases e; done))
  case move x => exact .inl (of_P1 (P1.ret _) (fun _ => rfl) e)
  case pick c a b =>
    refine .inl ?_
    cases hc : evX P tm c with
    | bool t => exact of_P1 (P1.ret (bif t then evX P tm a else evX P tm b)) (fun h => by simp [evOp, hc, pickB, pair]) e
    | _ => simp [evOp, hc, pickB] at e
  case alloc t =>
    refine .inr (.inr ?_)
    cases hz : zeroT P t with
    | some z => exact of_P2 (P2.mk (fun hc => ⟨RealL.zero hz, hc⟩)) (fun h => by simp [evOp, hz]) e
    | none => simp [evOp, hz] at e
  case box t x => exact .inr (.inr (of_P2 (P2.getL (cellsOf (evX P tm x)) fun cs hcs => P2.mk (fun hc => ⟨RealL.operand (by simp [Op.operands]) hcs, hc⟩)) (fun _ => rfl) e))
  case build t parts =>
    refine .inl ?_
    cases hz : zeroT P t with
    | none => simp [evOp, hz] at e
    | some z =>
      cases hu : P.underlying t with
      | none => simp [evOp, hz, hu] at e
      | some d =>
        cases d <;> (try (simp [evOp, hz, hu] at e; done))
        case struct fs => exact of_P1 (P1.bif (fieldsOk P fs.toList) (P1.fill (fun i => match fs.toList[i]? with | some f => some (f.offset, szOf P f.type) | none => none) (fun vs => P1.ret (.agg vs)) parts.toList z)) (fun h => by simp only [evOp, hz, hu]; rfl) e
        case array n el => exact of_P1 (P1.bif (Nat.blt 0 (szOf P el)) (P1.fill (fun i => some (Nat.mul i (szOf P el), szOf P el)) (fun vs => P1.ret (.agg vs)) parts.toList z)) (fun h => by simp only [evOp, hz, hu]; rfl) e
  case buildSlice t n parts =>
    refine .inr (.inr ?_)
    cases hu : P.underlying t with
    | none => simp [evOp, hu] at e
    | some d =>
      cases d <;> (try (simp [evOp, hu] at e; done))
      case slice el =>
        cases hz : zeroT P el with
        | none => simp [evOp, hu, hz] at e
        | some z =>
          exact of_P2 (P2.bif (Nat.blt 0 (szOf P el)) (P2.bif (Nat.beq z.length (szOf P el)) (P2.bif (Nat.ble (Nat.mul n (szOf P el)) 16777216) (P2.fill (fun i => some (Nat.mul i (szOf P el), szOf P el)) (fun cs hcs => P2.mkSlice (fun hc => ⟨hcs, hc⟩) n (szOf P el) (some n)) parts.toList (rep n z) (fun p hp => by simp only [Op.operands, List.mem_map]; exact ⟨p, hp, rfl⟩) ((RealL.zero hz).rep n))))) (fun h => by simp only [evOp, hu, hz]) e
  case load t a =>
    refine .inr (.inl ⟨?_, t, a, rfl⟩)
    simp only [evOp] at e
    rcases aggB_inv e with ⟨_, _, _, e⟩ | ⟨_, _, _, e⟩
    · exact ldn_pair e
    · exact ld_pair e
  case nilCheck x => exact .inl (of_P1 (P1.nil? _) (fun _ => rfl) e)
  case binOp op t x y yt =>
    refine .inl ?_
    cases op
    case eql => exact of_P1 (P1.eqOp false t _ _) (fun _ => rfl) e
    case neq => exact of_P1 (P1.eqOp true t _ _) (fun _ => rfl) e
    all_goals exact of_P1 (P1.get1 _) (fun _ => rfl) e
  case unOp op t x => exact .inl (of_P1 (P1.get1 _) (fun _ => rfl) e)
  case convert s d x =>
    refine .inl ?_
    cases hu : P.underlying d with
    | none => simp [evOp, hu] at e
    | some dd =>
      cases dd <;> (try (simp [evOp, hu] at e; done)) <;> (try (simp [isEff, hu] at hne; done))
      case int q =>
        cases hs : P.underlying s with
        | none => simp [evOp, hu, hs] at e
        | some sd => exact of_P1 (P1.cvI q (evX P tm x)) (fun h => by simp only [evOp, hu, hs]; rfl) e
  case makeFunc fn a b =>
    refine .inl ?_
    cases fn with
    | func f => exact of_P1 (P1.ret _) (fun _ => rfl) e
    | _ => simp [evOp] at e
  case makeMap t r =>
    refine .inr (.inr ?_)
    cases hu : P.underlying t with
    | none => simp [evOp, hu] at e
    | some d =>
      cases d <;> (try (simp [evOp, hu] at e; done))
      case map q el =>
        cases r with
        | none => exact of_P2 (P2.newMap trivial) (fun h => by simp [evOp, hu]) e
        | some x =>
          cases hx : evX P tm x with
          | int q n => exact of_P2 (P2.newMap trivial) (fun h => by simp [evOp, hu, hx, int?]) e
          | _ => simp [evOp, hu, hx, int?] at e
  case makeSlice t n c =>
    refine .inr (.inr ?_)
    cases hu : P.underlying t with
    | none => simp [evOp, hu] at e
    | some d =>
      cases d <;> (try (simp [evOp, hu] at e; done))
      case slice el =>
        cases hz : zeroT P el with
        | none => simp [evOp, hu, hz] at e
        | some z => exact of_P2 (P2.bif (Nat.blt 0 (szOf P el)) (P2.bif (Nat.beq z.length (szOf P el)) (P2.mks (RealL.zero hz) (szOf P el) (byOf P el) (evX P tm n) (evX P tm c)))) (fun h => by simp only [evOp, hu, hz]) e
  case slice t x lo hi mx =>
    refine .inl ?_
    cases hu : P.underlying t with
    | none => simp [evOp, hu] at e
    | some d =>
      cases d <;> (try (simp [evOp, hu] at e; done)) <;> (try (simp [isEff, hu] at hne; done))
      case slice el => exact of_P1 (P1.bif (Nat.blt 0 (szOf P el)) (P1.slS (szOf P el) _ _ _ _)) (fun h => by simp only [evOp, hu]; rfl) e
      case string =>
        cases mx with
        | none => exact of_P1 (P1.slT _ _ _) (fun h => by simp only [evOp, hu]; rfl) e
        | some m => simp [evOp, hu] at e
  case fieldAddr s x f =>
    refine .inl ?_
    cases hu : P.underlying s with
    | none => simp [evOp, hu] at e
    | some d =>
      cases d <;> (try (simp [evOp, hu] at e; done))
      case struct fs =>
        cases hf : fs.toList[f]? with
        | none => simp only [evOp, hu, hf] at e; cases e
        | some fd => exact of_P1 (P1.bif (Nat.blt 0 (szOf P fd.type)) (P1.fa fd.offset (evX P tm x))) (fun h => by simp only [evOp, hu, hf]; rfl) e
  case field t x f =>
    refine .inl ?_
    cases hu : P.underlying t with
    | none => simp [evOp, hu] at e
    | some d =>
      cases d <;> (try (simp [evOp, hu] at e; done))
      case struct fs =>
        cases hf : fs.toList[f]? with
        | none => simp only [evOp, hu, hf] at e; cases e
        | some fd => exact of_P1 (P1.aggB fd.type (P1.partN (szOf P fd.type) (evX P tm x) fd.offset) (P1.part1 (evX P tm x) fd.offset)) (fun h => by simp only [evOp, hu, hf]; rfl) e
  case indexAddr t x i =>
    refine .inl ?_
    cases hu : P.underlying t with
    | none => simp [evOp, hu] at e
    | some d =>
      cases d <;> (try (simp [evOp, hu] at e; done))
      case array n el => exact of_P1 (P1.bif (Nat.blt 0 (szOf P el)) (P1.ixA n (szOf P el) (evX P tm x) (evX P tm i))) (fun h => by simp only [evOp, hu]; rfl) e
      case slice el => exact of_P1 (P1.bif (Nat.blt 0 (szOf P el)) (P1.ixS (szOf P el) (evX P tm x) (evX P tm i))) (fun h => by simp only [evOp, hu]; rfl) e
  case index t x i =>
    refine .inl ?_
    cases hu : P.underlying t with
    | none => simp [evOp, hu] at e
    | some d =>
      cases d <;> (try (simp [evOp, hu] at e; done))
      case array n el => exact of_P1 (P1.bif (Nat.blt 0 (szOf P el)) (P1.aggB el (P1.ixG true n (szOf P el) (evX P tm x) (evX P tm i)) (P1.ixG false n (szOf P el) (evX P tm x) (evX P tm i)))) (fun h => by simp only [evOp, hu]; rfl) e
      case string => exact of_P1 (P1.ixT (evX P tm x) (evX P tm i)) (fun h => by simp only [evOp, hu]; rfl) e
  case extract x i => exact .inl (of_P1 (P1.ext (evX P tm x) i) (fun _ => rfl) e)
  case call c =>
    refine .inl ?_
    cases hc : c.callee with
    | value f => simp [isEff, hc] at hne
    | invoke r m => simp [isEff, hc] at hne
    | builtin b =>
      have hargs : ∃ ts, c.argTypes.toList = ts := ⟨_, rfl⟩
      have hal : ∃ al, c.args.toList.map (evX P tm) = al := ⟨_, rfl⟩
      obtain ⟨ts, hts⟩ := hargs
      obtain ⟨al, hal⟩ := hal
      have hF : ∀ h, evOp P rec tm (.call c) h pair = evB P b ts al h pair := fun h => by simp only [evOp, hc, hts, hal]
      rw [hF] at e
      cases b <;> (try (simp [isEff, hc, effB] at hne; done)) <;> (try (simp [evB] at e; done))
      case len =>
        match ts, al, hF, e with
        | t :: ts, [x], hF, e =>
          have ht0 : c.argTypes[0]? = some t := by rw [← Array.getElem?_toList, hts]; rfl
          cases hu : P.underlying t with
          | none => simp [evB, hu] at e
          | some d =>
            rw [← hF] at e
            cases d <;> (try (rw [hF] at e; simp [evB, hu] at e; done)) <;> (try (simp [isEff, hc, ht0, hu] at hne; done))
            case slice el => exact of_P1 (P1.lenS x) (fun h => by rw [hF]; simp only [evB, hu]; rfl) e
            case string => exact of_P1 (P1.lenT x) (fun h => by rw [hF]; simp only [evB, hu]; rfl) e
            case array n el => exact of_P1 (P1.ret (.int .i64 (.ofNat n))) (fun h => by rw [hF]; simp only [evB, hu]; rfl) e
            case pointer el =>
              cases hu2 : P.underlying el with
              | none => rw [hF] at e; simp [evB, hu, hu2] at e
              | some d2 =>
                cases d2 <;> (try (rw [hF] at e; simp [evB, hu, hu2] at e; done))
                case array n el2 => exact of_P1 (P1.ret (.int .i64 (.ofNat n))) (fun h => by rw [hF]; simp only [evB, hu, hu2]; rfl) e
        | [], _, _, e => simp [evB] at e
        | _ :: _, [], _, e => simp [evB] at e
        | _ :: _, _ :: _ :: _, _, e => simp [evB] at e
      case min =>
        match al, hF, e with
        | [x, y], hF, e => rw [← hF] at e; exact of_P1 (P1.mm false x y) (fun h => by rw [hF]; rfl) e
        | [], _, e => simp [evB] at e
        | [_], _, e => simp [evB] at e
        | _ :: _ :: _ :: _, _, e => simp [evB] at e
      case max =>
        match al, hF, e with
        | [x, y], hF, e => rw [← hF] at e; exact of_P1 (P1.mm true x y) (fun h => by rw [hF]; rfl) e
        | [], _, e => simp [evB] at e
        | [_], _, e => simp [evB] at e
        | _ :: _ :: _ :: _, _, e => simp [evB] at e
end
end Go.Ai
/-
  THE ABSTRACT INTERPRETER, REGIONS THAT DRAW THEIR ORDER, 3: an object that comes to lie in the world later than the evaluator laid it.
-/
namespace Go.Ai
open Go

section
variable {C : Ctx} {β0 β β1 β' : Be} {h0 h : Heap} {w0 w w' : World}
mutual
theorem VRel.real (h1 : Sub β β1) (h' : Sub β β') : ∀ {a : AV} {u v : Value}, VRel β a u → VRel β1 a v → VRel β' a v
  | .bot, _, _, _, _ => by simp [VRel]
  | .bool _, _, _, _, hv => by simpa [VRel] using hv
  | .int _ _, _, _, _, hv => by simpa [VRel] using hv
  | .str _, _, _, _, hv => by simpa [VRel] using hv
  | .nilp, _, _, _, hv => by simpa [VRel] using hv
  | .ptr _ _, _, _, hu, hv => by
    simp only [VRel] at hu hv ⊢
    obtain ⟨p, hp, _⟩ := hu
    obtain ⟨q, hq, e⟩ := hv
    obtain rfl : p = q := Option.some.inj ((h1 _ _ hp).symm.trans hq)
    exact ⟨p, h' _ _ hp, e⟩
  | .nils, _, _, _, hv => by simpa [VRel] using hv
  | .slice _ _ _ _ _, _, _, hu, hv => by
    simp only [VRel] at hu hv ⊢
    obtain ⟨p, hp, _⟩ := hu
    obtain ⟨q, hq, e⟩ := hv
    obtain rfl : p = q := Option.some.inj ((h1 _ _ hp).symm.trans hq)
    exact ⟨p, h' _ _ hp, e⟩
  | .nilm, _, _, _, hv => by simpa [VRel] using hv
  | .map _, _, _, hu, hv => by
    simp only [VRel] at hu hv ⊢
    obtain ⟨p, hp, _⟩ := hu
    obtain ⟨q, hq, e⟩ := hv
    obtain rfl : p = q := Option.some.inj ((h1 _ _ hp).symm.trans hq)
    exact ⟨p, h' _ _ hp, e⟩
  | .nilf, _, _, _, hv => by simpa [VRel] using hv
  | .func _ a b, _, _, hu, hv => by
    simp only [VRel] at hu hv ⊢
    obtain ⟨_, _, _, u1, u2⟩ := hu
    obtain ⟨x, y, e, v1, v2⟩ := hv
    exact ⟨x, y, e, VRels.real h1 h' u1 v1, VRels.real h1 h' u2 v2⟩
  | .yield _, _, _, hu, hv => by
    simp only [VRel] at hu hv ⊢
    obtain ⟨p, hp, _⟩ := hu
    obtain ⟨q, hq, e⟩ := hv
    obtain rfl : p = q := Option.some.inj ((h1 _ _ hp).symm.trans hq)
    exact ⟨p, h' _ _ hp, e⟩
  | .nili, _, _, _, hv => by simpa [VRel] using hv
  | .agg cs, _, _, hu, hv => by
    simp only [VRel] at hu hv ⊢
    obtain ⟨_, _, u1⟩ := hu
    obtain ⟨x, e, v1⟩ := hv
    exact ⟨x, e, VRels.real h1 h' u1 v1⟩
  | .tup cs, _, _, hu, hv => by
    simp only [VRel] at hu hv ⊢
    obtain ⟨_, _, u1⟩ := hu
    obtain ⟨x, e, v1⟩ := hv
    exact ⟨x, e, VRels.real h1 h' u1 v1⟩
  | .rng _ _ _, _, _, _, hv => by simpa only [VRel] using hv
  | .one, _, _, _, hv => by simpa only [VRel] using hv
theorem VRels.real (h1 : Sub β β1) (h' : Sub β β') : ∀ {as : List AV} {us vs : List Value}, VRels β as us → VRels β1 as vs → VRels β' as vs
  | [], _, _, _, hv => by simpa [VRels] using hv
  | a :: as, _, _, hu, hv => by
    simp only [VRels] at hu hv ⊢
    obtain ⟨_, _, _, u1, u2⟩ := hu
    obtain ⟨v, vs, e, v1, v2⟩ := hv
    exact ⟨v, vs, e, VRel.real h1 h' u1 v1, VRels.real h1 h' u2 v2⟩
end
theorem TRel.real (h1 : Sub β β1) (h' : Sub β β') {tm : List AV} {t0 t : Array Value} (hu : TRel β tm t0) (hv : TRel β1 tm t) : TRel β' tm t :=
  ⟨hv.1, fun i => VRel.real h1 h' (hu.2 i) (hv.2 i)⟩
theorem MRel.real (h1 : Sub β β1) (h' : Sub β β') : ∀ {es : List (AV × AV)} {l0 l : List MapEntry}, MRel β es l0 → MRel β1 es l → MRel β' es l
  | [], _, _, _, hv => by simpa [MRel] using hv
  | (k, x) :: es, _, _, hu, hv => by
    simp only [MRel] at hu hv ⊢
    obtain ⟨_, _, _, _, u1, u2, _, u3⟩ := hu
    obtain ⟨e, r, e1, e2, v1, v2, e3, v3⟩ := hv
    exact ⟨e, r, e1, e2, VRel.real h1 h' u1 v1, VRel.real h1 h' u2 v2, e3, MRel.real h1 h' u3 v3⟩
/-- An object all of whose names stand for something. -/
def OReal (C : Ctx) (β : Be) : Obj → Prop
  | .cells cs => ∃ us, VRels β cs us
  | .tab cs => ∃ us, VRels β cs us
  | .map es => ∃ l, MRel β es l
  | .loop id vs _ _ => ∀ s, C.S id = some s → ∃ t, TRel β (unpack (bots s.nt) s.live vs) t
theorem ORel.isReal {o : Obj} {p : Pl} {H : Array Go.Obj} (r : ORel C β o p H) : OReal C β o := by
  cases o with
  | cells cs => obtain ⟨_, m, _, _, _, _, _, e, _⟩ := r; exact ⟨m, e⟩
  | tab cs => obtain ⟨_, m, _, _, _, _, _, _, e, _⟩ := r; exact ⟨m, e⟩
  | map es => obtain ⟨a, _, _, e⟩ := r; exact ⟨_, e⟩
  | loop id vs st pd =>
    obtain ⟨r, s, _, e2, _, _, _, _, e7, _⟩ := r
    intro s' hs'
    rw [e2] at hs'; cases hs'
    exact ⟨_, e7⟩
theorem ORel.real (h1 : Sub β β1) (h' : Sub β β') {o : Obj} {p : Pl} {H : Array Go.Obj} (ho : OReal C β o) (r : ORel C β1 o p H) : ORel C β' o p H := by
  cases o with
  | cells cs =>
    obtain ⟨_, hu⟩ := ho
    obtain ⟨a, b, c, d, e1, e2, e3, e4, e5⟩ := r
    exact ⟨a, b, c, d, e1, e2, e3, VRels.real h1 h' hu e4, e5⟩
  | tab cs =>
    obtain ⟨_, hu⟩ := ho
    obtain ⟨a, b, c, d, f, e1, e2, e3, e4, e5⟩ := r
    exact ⟨a, b, c, d, f, e1, e2, e3, VRels.real h1 h' hu e4, e5⟩
  | map es =>
    obtain ⟨_, hu⟩ := ho
    obtain ⟨a, b, e1, e2⟩ := r
    exact ⟨a, b, e1, MRel.real h1 h' hu e2⟩
  | loop id vs st pend =>
    obtain ⟨a, b, e1, e2, e4, e5, e6, e7, e8, e9, e10⟩ := r
    obtain ⟨_, hu⟩ := ho b e2
    exact ⟨a, b, e1, e2, e4, e5, e6, e7, TRel.real h1 h' hu e8, e9, e10⟩
/-- the name that an object gets when it comes to lie there at last -/
def Be.late (β1 : Be) (l0 nx : Nat) (p1 : Pl) : Be := fun l => if l = l0 then some p1 else if l = nx then none else β1 l
section
variable {l0 : Nat} {o : Obj} {p1 : Pl}
theorem Be.late_old (r : HRel C β h w) (r1 : HRel C β1 (h.push o) w') (x1 : Ext β h w β1 (h.push o) w') {l : Nat} {p : Pl} (e : β1.late l0 h.next p1 l = some p) : (l = l0 ∧ p = p1) ∨ (l ≠ l0 ∧ β l = some p) := by
  unfold Be.late at e
  split at e
  · cases e; exact .inl ⟨by assumption, rfl⟩
  · split at e
    · cases e
    · rename_i h1 h2
      rcases x1.new l p e with hb | hn
      · exact .inr ⟨h1, hb⟩
      · exfalso
        have h3 := hn.1
        have h4 := r1.dom l p e
        clear hn
        simp at h4
        omega
theorem Be.late_sub (r : HRel C β h w) (x1 : Ext β h w β1 (h.push o) w') (hl : β l0 = none) : Sub β (β1.late l0 h.next p1) := fun l p e => by
  have h1 : l ≠ l0 := by intro hh; subst hh; rw [hl] at e; cases e
  have h2 : l ≠ h.next := by have := r.dom l p e; omega
  unfold Be.late
  rw [if_neg h1, if_neg h2]
  exact x1.sub l p e
theorem HRel.realize (r : HRel C β h w) (r1 : HRel C β1 (h.push o) w') (x1 : Ext β h w β1 (h.push o) w') (hl : β l0 = none) (hlt : l0 < h.next) (hg : h.get l0 = some o) (hp : β1 h.next = some p1) (ho : OReal C β o) :
    HRel C (β1.late l0 h.next p1) h w' := by
  have hs := Be.late_sub (p1 := p1) r x1 hl
  have hpush : ∀ l, l ≠ h.next → (h.push o).get l = h.get l := fun l hh => by rw [Heap.get_push, if_neg (Ne.symm hh)]
  have hself : (h.push o).get h.next = some o := by rw [Heap.get_push, if_pos rfl]
  refine ⟨fun l p e => ?_, fun l p e => ?_, fun l l' p p' q q' e e' g g' hb => ?_, fun l p q e g => ?_, fun g hg => ?_, r.fin, r.rows⟩
  · rcases Be.late_old r r1 x1 e with ⟨rfl, _⟩ | ⟨_, e⟩
    · exact hlt
    · exact r.dom l p e
  · rcases Be.late_old r r1 x1 e with ⟨_, rfl⟩ | ⟨_, e⟩
    · exact r1.lt _ _ hp
    · exact Nat.lt_of_lt_of_le (r.lt l p e) x1.size
  · rcases Be.late_old r r1 x1 e with ⟨a1, a2⟩ | ⟨h1, ea⟩ <;> rcases Be.late_old r r1 x1 e' with ⟨b1, b2⟩ | ⟨h2, eb⟩
    · rw [a1, b1]
    · subst a2
      have hd := r.dom _ _ eb
      have := r1.inj h.next l' _ p' o q' hp (x1.sub _ _ eb) hself (by rw [hpush l' (by omega)]; exact g') hb
      omega
    · subst b2
      have hd := r.dom _ _ ea
      have := r1.inj l h.next p _ q o (x1.sub _ _ ea) hp (by rw [hpush l (by omega)]; exact g) hself hb
      omega
    · exact r.inj l l' p p' q q' ea eb g g' hb
  · rcases Be.late_old r r1 x1 e with ⟨rfl, rfl⟩ | ⟨_, e⟩
    · rw [hg] at g; cases g
      exact ORel.real x1.sub hs ho (r1.obj _ _ _ hp hself)
    · have hd := r.dom _ _ e
      exact ORel.real x1.sub hs (r.obj l p q e g).isReal (r1.obj l p q (x1.sub _ _ e) (by rw [hpush l (by omega)]; exact g))
  · obtain ⟨n, hn⟩ := r.glob g hg
    exact ⟨n, hs _ _ hn⟩
theorem Ext.realize (x : Ext β0 h0 w0 β h w) (r : HRel C β h w) (r1 : HRel C β1 (h.push o) w') (x1 : Ext β h w β1 (h.push o) w') (hl : β l0 = none) (hge : h0.next ≤ l0) (hp : β1 h.next = some p1) :
    Ext β0 h0 w0 (β1.late l0 h.next p1) h w' := by
  have y := x.trans x1
  refine ⟨x.sub.trans (Be.late_sub r x1 hl), fun l p e => ?_, x.next, y.size, y.keep, x.tabs, x.out, y.os, y.tape, y.output, y.frz⟩
  rcases Be.late_old r r1 x1 e with ⟨rfl, rfl⟩ | ⟨_, e⟩
  · rcases y.new _ _ hp with hb | ⟨_, hb⟩
    · have := r.dom _ _ (x.sub _ _ hb)
      omega
    · exact .inr ⟨hge, hb⟩
  · exact x.new l p e
theorem Be.late_none (r : HRel C β h w) (r1 : HRel C β1 (h.push o) w') (x1 : Ext β h w β1 (h.push o) w') {l : Nat} (hne : l ≠ l0) (hl : β l = none) : β1.late l0 h.next p1 l = none := by
  cases e : β1.late l0 h.next p1 l with
  | none => rfl
  | some p =>
    rcases Be.late_old r r1 x1 e with ⟨h1, _⟩ | ⟨_, h1⟩
    · exact absurd h1 hne
    · rw [hl] at h1; cases h1
theorem NameOf.at {f : Nat → AV} (hf : NameOf f) {l : Nat} {x : Value} (e : VRel β (f l) x) : ∃ p, β l = some p ∧ ∀ β' l', β' l' = some p → VRel β' (f l') x := by
  cases hf with
  | ptr =>
    simp only [VRel] at e
    obtain ⟨p, hp, e⟩ := e
    exact ⟨p, hp, fun β' l' h' => by simp only [VRel]; exact ⟨p, h', e⟩⟩
  | slice n c sz =>
    simp only [VRel] at e
    obtain ⟨p, hp, e⟩ := e
    exact ⟨p, hp, fun β' l' h' => by simp only [VRel]; exact ⟨p, h', e⟩⟩
  | map =>
    simp only [VRel] at e
    obtain ⟨p, hp, e⟩ := e
    exact ⟨p, hp, fun β' l' h' => by simp only [VRel]; exact ⟨p, h', e⟩⟩
end
theorem ReO.real {xs : List Operand} {tm : List AV} {o : Obj} (h : ReO C.P xs tm o) (hx : ∀ x ∈ xs, ∃ v, VRel β (evX C.P tm x) v) : OReal C β o := by
  cases o with
  | cells cs => exact h.1 β hx
  | tab cs => exact h.elim
  | map es =>
    cases es with
    | nil => exact ⟨[], by simp [MRel]⟩
    | cons _ _ => exact h.elim
  | loop id vs st pd => exact h.elim
theorem ReO.rows {P : Program} {xs : List Operand} {tm : List AV} {o : Obj} (h : ReO P xs tm o) {cs : List AV} (e : o = .cells cs ∨ o = .tab cs) : all1 cs = true := by
  rcases e with rfl | rfl
  · exact h.2
  · exact h.elim
theorem ReO.nontab {P : Program} {xs : List Operand} {tm : List AV} {o : Obj} (h : ReO P xs tm o) : ∀ cs, o ≠ .tab cs := by
  rintro cs rfl
  exact h.elim
end
end Go.Ai
/-
  THE ABSTRACT INTERPRETER, REGIONS THAT DRAW THEIR ORDER, 4: the plan; what is carried out later.
-/
namespace Go.Ai
open Go

section
variable {ops : Array Oper} {P : Program} {B : List Nat}
def isL (listed : Array Bool) (i : Nat) : Bool := listed.getD i false
def ClosedL (ops : Array Oper) (listed : Array Bool) : Prop := ∀ i o, ops[i]? = some o → isL listed i = true → ∀ e ∈ o.after, Region.binds .any e = true → isL listed e.on = true
theorem fold_bits (acc : Array Nat) (k : Nat) : ∀ (l : List Edge) (s : Nat), (l.foldl (fun s e => if Region.binds .any e then s ||| 2 ^ e.on ||| acc.getD e.on 0 else s) s).testBit k = true →
    s.testBit k = true ∨ ∃ e ∈ l, Region.binds .any e = true ∧ (e.on = k ∨ (acc.getD e.on 0).testBit k = true)
  | [], s, h => .inl h
  | e :: l, s, h => by
    simp only [List.foldl_cons] at h
    rcases fold_bits acc k l _ h with h1 | ⟨e', he, h1⟩
    · by_cases hb : Region.binds .any e = true
      · simp only [hb, if_true] at h1
        rw [Nat.testBit_or, Nat.testBit_or, Nat.testBit_two_pow] at h1
        simp only [Bool.or_eq_true, decide_eq_true_eq] at h1
        rcases h1 with (h1 | h1) | h1
        · exact .inl h1
        · exact .inr ⟨e, by simp, hb, .inl h1⟩
        · exact .inr ⟨e, by simp, hb, .inr h1⟩
      · simp only [hb] at h1
        exact .inl h1
    · exact .inr ⟨e', by simp [he], h1⟩
def BefGood (ops : Array Oper) (A : Array Nat) : Prop := ∀ i, i < A.size → ∀ k, (A.getD i 0).testBit k = true →
    ∃ o, ops[i]? = some o ∧ ∃ e ∈ o.after, Region.binds .any e = true ∧ (e.on = k ∨ (e.on < i ∧ (A.getD e.on 0).testBit k = true))
theorem before_good_go : ∀ (l : List Oper) (acc : Array Nat), ops.toList.drop acc.size = l → BefGood ops acc →
    BefGood ops (l.foldl (fun acc o => acc.push (o.after.foldl (fun s e => if Region.binds .any e then s ||| 2 ^ e.on ||| acc.getD e.on 0 else s) 0)) acc)
  | [], acc, _, g => g
  | o :: l, acc, hl, g => by
    simp only [List.foldl_cons]
    have hlt : acc.size < ops.toList.length := by
      rcases Nat.lt_or_ge acc.size ops.toList.length with h | h
      · exact h
      · rw [List.drop_eq_nil_of_le h] at hl; cases hl
    have ho : ops[acc.size]? = some o := by
      rw [List.drop_eq_getElem_cons hlt] at hl
      rw [← Array.getElem?_toList, List.getElem?_eq_getElem hlt]
      exact congrArg some (List.cons.inj hl).1
    have hl' : ops.toList.drop (acc.size + 1) = l := by
      rw [List.drop_eq_getElem_cons hlt] at hl
      exact (List.cons.inj hl).2
    refine before_good_go l _ (by simpa using hl') ?_
    have hold : ∀ j x, j < acc.size → (acc.push x).getD j 0 = acc.getD j 0 := fun j x hj => by
      simp only [Array.getD_eq_getD_getElem?]
      rw [Array.getElem?_push, if_neg (by omega)]
    intro i hi k hk
    by_cases hia : i < acc.size
    · rw [hold _ _ hia] at hk
      obtain ⟨o', ho', e, he, hb, h1⟩ := g i hia k hk
      refine ⟨o', ho', e, he, hb, h1.imp id fun ⟨h2, h3⟩ => ⟨h2, ?_⟩⟩
      rw [hold _ _ (by omega)]; exact h3
    · have hia : i = acc.size := by simp at hi; omega
      subst hia
      have hk' : (o.after.foldl (fun s e => if Region.binds .any e then s ||| 2 ^ e.on ||| acc.getD e.on 0 else s) 0).testBit k = true := by
        simpa [Array.getD_eq_getD_getElem?] using hk
      rw [← Array.foldl_toList] at hk'
      rcases fold_bits acc k _ _ hk' with h0 | ⟨e, he, hb, h1⟩
      · simp at h0
      · refine ⟨o, ho, e, by simpa using he, hb, ?_⟩
        rcases h1 with h1 | h1
        · exact .inl h1
        · have hon : e.on < acc.size := by
            rcases Nat.lt_or_ge e.on acc.size with h | h
            · exact h
            · simp [Array.getD_eq_getD_getElem?, Array.getElem?_eq_none h] at h1
          exact .inr ⟨hon, by rw [hold _ _ hon]; exact h1⟩
theorem before_good (ops : Array Oper) : BefGood ops (Region.before ops) := by
  unfold Region.before
  rw [← Array.foldl_toList]
  exact before_good_go ops.toList #[] (by simp) (fun i hi => by simp at hi)
theorem bef_listed {listed : Array Bool} (hc : ClosedL ops listed) {k : Nat} : ∀ (n i : Nat), i ≤ n → befOf ops k i = true → (∀ o, ops[i]? = some o → ∀ e ∈ o.after, Region.binds .any e = true → isL listed e.on = true) → isL listed k = true := by
  intro n
  induction n with
  | zero =>
    intro i hi hb hp
    unfold befOf at hb
    have hlt : i < (Region.before ops).size := by
      rcases Nat.lt_or_ge i (Region.before ops).size with h | h
      · exact h
      · simp [Array.getD_eq_getD_getElem?, Array.getElem?_eq_none h] at hb
    obtain ⟨o, ho, e, he, hbd, h1 | ⟨h1, _⟩⟩ := before_good ops i hlt k hb
    · rw [← h1]; exact hp o ho e he hbd
    · omega
  | succ n ih =>
    intro i hi hb hp
    unfold befOf at hb
    have hlt : i < (Region.before ops).size := by
      rcases Nat.lt_or_ge i (Region.before ops).size with h | h
      · exact h
      · simp [Array.getD_eq_getD_getElem?, Array.getElem?_eq_none h] at hb
    obtain ⟨o, ho, e, he, hbd, h1 | ⟨h1, h2⟩⟩ := before_good ops i hlt k hb
    · rw [← h1]; exact hp o ho e he hbd
    · exact ih e.on (by omega) h2 fun o' ho' e' he' hb' => hc e.on o' ho' (hp o ho e he hbd) e' he' hb'

theorem lnth_eq : ∀ (l : List Nat) (i : Nat), lnth l i = l.getD i 0
  | [], _ => by simp [lnth]
  | _ :: _, 0 => by simp [lnth]
  | _ :: l, i + 1 => by simp [lnth, lnth_eq l i]
theorem befL_eq (h : B = (Region.before ops).toList) (i j : Nat) : befL B i j = befOf ops i j := by
  unfold befL befOf
  rw [lnth_eq, h]
  simp [Array.getD_eq_getD_getElem?, List.getD_eq_getElem?_getD]
/-! ### The plan -/
structure PlanAt (P : Program) (ops : Array Oper) (B : List Nat) (sn : List Nat) (i : Nat) : Prop where
  op : ∃ o, ops[i]? = some o ∧ ∀ e ∈ o.after, Region.binds .any e = true → e.on ∈ sn
  fresh : i ∉ sn
  own : effAt P ops i = true ∨ offD (dstAt ops i) (looksAt ops i) = true
  eff : ∀ j ∈ sn, effAt P ops j = true → befL B j i = true
  raw : ∀ j ∈ sn, offD (dstAt ops j) (namesAt ops i) = true ∨ befL B j i = true
  war : ∀ j ∈ sn, offD (dstAt ops i) (namesAt ops j) = true ∨ effAt P ops j = true ∨ (effAt P ops i = true ∧ befL B j i = true)
theorem planGo_inv : ∀ (rest seen pre post : List Nat) (i : Nat), planGo P ops B seen rest = true → rest = pre ++ i :: post → PlanAt P ops B (pre.reverse ++ seen) i
  | [], _, pre, post, i, _, e => by simp at e
  | j :: rest, seen, pre, post, i, h, e => by
    simp only [planGo, Bool.and_eq_true] at h
    obtain ⟨⟨⟨⟨⟨h1, h2⟩, h3⟩, h4⟩, h5⟩, h6⟩ := h
    cases pre with
    | nil =>
      simp only [List.nil_append, List.cons.injEq] at e
      obtain ⟨rfl, rfl⟩ := e
      simp only [List.reverse_nil, List.nil_append]
      refine ⟨?_, by simpa using h2, by simpa using h3, fun q hq he => ?_, fun q hq => ?_, fun q hq => ?_⟩
      · cases ho : ops[j]? with
        | none => simp [ho] at h1
        | some o =>
          refine ⟨o, rfl, fun e he hb => ?_⟩
          simp only [ho, List.all_eq_true] at h1
          have := h1 e (by simpa using he)
          simp [hb] at this
          exact this.1
      · rw [List.all_eq_true] at h4
        have := h4 q hq
        simpa [he] using this
      · rw [List.all_eq_true] at h5
        have := h5 q hq
        simp only [Bool.and_eq_true, Bool.or_eq_true] at this
        exact this.1
      · rw [List.all_eq_true] at h5
        have := h5 q hq
        simp only [Bool.and_eq_true, Bool.or_eq_true] at this
        exact or_assoc.1 this.2
    | cons p pre =>
      simp only [List.cons_append, List.cons.injEq] at e
      obtain ⟨rfl, rfl⟩ := e
      have := planGo_inv _ (j :: seen) pre post i h6 rfl
      simpa using this
theorem offD_not {d : Option Nat} {l : List Nat} {t : Nat} (h : offD d l = true) (hd : d = some t) : t ∉ l := by
  subst hd
  simpa [offD] using h
structure PlanP (P : Program) (ops : Array Oper) (B : List Nat) (order : List Nat) : Prop where
  bef : B = (Region.before ops).toList
  len : order.length = ops.size
  all : ∀ i, i < ops.size → i ∈ order
  at' : ∀ dn i post, order = dn ++ i :: post → PlanAt P ops B dn i
theorem plan_ok {order : List Nat} (h : planOk P ops order B = true) : PlanP P ops B order := by
  unfold planOk at h
  simp only [Bool.and_eq_true] at h
  obtain ⟨h0, ⟨h1, h2⟩, h3⟩ := h
  rw [seq_eq] at h0
  refine ⟨eq_of_beq h0, beq_eq h1, fun i hi => ?_, fun dn i post e => ?_⟩
  · rw [List.all_eq_true] at h2
    simpa using h2 i (by simpa using hi)
  · have p := planGo_inv order [] dn post i h3 e
    simp only [List.append_nil] at p
    exact ⟨by obtain ⟨o, ho, he⟩ := p.op; exact ⟨o, ho, fun e h hb => by simpa using he e h hb⟩, by simpa using p.fresh, p.own, fun j hj => p.eff j (by simpa using hj), fun j hj => p.raw j (by simpa using hj), fun j hj => p.war j (by simpa using hj)⟩

/-! ### What is carried out later -/
def DstIs (tm : List AV) (d : Option Tmp) (v : AV) : Prop := ∀ t, d = some t → t < tm.length → tget tm t = v
def Late (P : Program) (rec : Rec) (ops : Array Oper) (β : Be) (b : Nat) (tm : List AV) (h : Heap) (l : List Seen) (nm : Option Nat) (i : Nat) : Prop :=
  ∃ o, ops[i]? = some o ∧ isEff P o.op = false ∧
    ((wantB ops o tm = some false ∧ DstIs tm o.dst (.tup [])) ∨
     (wantB ops o tm = some true ∧ ∃ v, DstIs tm o.dst v ∧
      (Pure P rec tm o.op v ∨
       (evOp P rec tm o.op h pair = some (v, h) ∧ ∃ t x, o.op = .load t x ∧ Seen.mk i (aggT P t) (szOf P t) (evX P tm x) v ∈ l) ∨
       ∃ f ob l0, nm = some l0 ∧ v = f l0 ∧ β l0 = none ∧ b ≤ l0 ∧ l0 < h.next ∧ h.get l0 = some ob ∧ Lays P rec tm o.op f ob)))
section
variable {rec : Rec} {tm tm' : List AV}
theorem tput_length (tm : List AV) (d : Option Tmp) (v : AV) : (tput tm d v).length = tm.length := by
  cases d <;> simp [tput, tset_length]
theorem tget_tput (tm : List AV) (d : Option Tmp) (v : AV) (t : Nat) : tget (tput tm d v) t = if d = some t ∧ t < tm.length then v else tget tm t := by
  cases d with
  | none => simp [tput]
  | some d =>
    simp only [tput, tget_tset, Option.some.injEq]
    by_cases h : d = t
    · subst h; rfl
    · simp [h]
theorem evOp_same {o : Oper} (h : ∀ t ∈ looksOf ops o, tget tm t = tget tm' t) (hp : Heap) (k : AV → Heap → Option (AV × Heap)) : evOp P rec tm o.op hp k = evOp P rec tm' o.op hp k :=
  evOp_congr _ _ _ fun x hx => evX_restr (ks := looksOf ops o) x (fun t e => by
    subst e
    exact List.mem_append_left _ (List.mem_filterMap.2 ⟨.tmp t, by simpa using hx, rfl⟩)) h
theorem wantB_same {o : Oper} (h : ∀ t ∈ looksOf ops o, tget tm t = tget tm' t) : wantB ops o tm = wantB ops o tm' :=
  wantB_congr ops o fun j w d hg hd => h d (List.mem_append_right _ (by simp [hg, hd]))
theorem evX_same {o : Oper} (h : ∀ t ∈ looksOf ops o, tget tm t = tget tm' t) {x : Operand} (hx : x ∈ o.op.operands) : evX P tm x = evX P tm' x :=
  evX_restr (ks := looksOf ops o) x (fun t e => by
    subst e
    exact List.mem_append_left _ (List.mem_filterMap.2 ⟨.tmp t, by simpa using hx, rfl⟩)) h
theorem RealL.same {xs : List Operand} {cs : List AV} (h : ∀ x ∈ xs, evX P tm x = evX P tm' x) (r : RealL P xs tm cs) : RealL P xs tm' cs := fun β hx => r β fun x hxs => by rw [h x hxs]; exact hx x hxs
theorem Lays.same {o : Oper} {f : Nat → AV} {ob : Obj} (h : ∀ t ∈ looksOf ops o, tget tm t = tget tm' t) (l : Lays P rec tm o.op f ob) : Lays P rec tm' o.op f ob := by
  obtain ⟨h1, h2, h3⟩ := l
  refine ⟨h1, ?_, fun hp => by rw [← evOp_same h]; exact h3 hp⟩
  cases ob with
  | cells cs => exact ⟨RealL.same (fun x hx => evX_same h (by simpa using hx)) h2.1, h2.2⟩
  | tab cs => exact h2
  | map es => cases es <;> exact h2
  | loop id vs st pd => exact h2
theorem Late.step {β β' : Be} {b : Nat} {h h' : Heap} {l l' : List Seen} {nm : Option Nat} {i : Nat} (q : Late P rec ops β b tm h l nm i)
    (ht : ∀ t ∈ namesAt ops i, tget tm t = tget tm' t) (hlen : tm'.length = tm.length) (hl : ∀ s ∈ l, s ∈ l')
    (hload : ∀ o v t x, ops[i]? = some o → o.op = .load t x → evOp P rec tm o.op h pair = some (v, h) → Seen.mk i (aggT P t) (szOf P t) (evX P tm x) v ∈ l → evOp P rec tm o.op h' pair = some (v, h'))
    (hn : h.next ≤ h'.next) (hname : ∀ l0, nm = some l0 → β l0 = none → l0 < h.next → β' l0 = none ∧ h'.get l0 = h.get l0) : Late P rec ops β' b tm' h' l' nm i := by
  obtain ⟨o, ho, hne, q⟩ := q
  have hnm : namesAt ops i = namesOf ops o := by simp [namesAt, ho]
  rw [hnm] at ht
  have hlook : ∀ t ∈ looksOf ops o, tget tm t = tget tm' t := fun t h => ht t (List.mem_append_right _ h)
  have hdst : ∀ v, DstIs tm o.dst v → DstIs tm' o.dst v := fun v hd t e hlt => by
    rw [← ht t (List.mem_append_left _ (by simp [e]))]
    exact hd t e (by rw [← hlen]; exact hlt)
  refine ⟨o, ho, hne, ?_⟩
  rw [← wantB_same hlook]
  rcases q with ⟨h1, h2⟩ | ⟨h1, v, h2, h3⟩
  · exact .inl ⟨h1, hdst _ h2⟩
  · refine .inr ⟨h1, v, hdst _ h2, ?_⟩
    rcases h3 with h3 | ⟨h3, t, x, h4, h5⟩ | ⟨f, ob, l0, h3, h4, h5, h6, h7, h8, h9⟩
    · exact .inl fun hp => by rw [← evOp_same hlook]; exact h3 hp
    · refine .inr (.inl ⟨by rw [← evOp_same hlook]; exact hload o v t x ho h4 h3 h5, t, x, h4, ?_⟩)
      rw [← evX_same (P := P) hlook (x := x) (by rw [h4]; simp [Op.operands])]
      exact hl _ h5
    · obtain ⟨k1, k2⟩ := hname l0 h3 h5 h7
      exact .inr (.inr ⟨f, ob, l0, h3, h4, k1, h6, Nat.lt_of_lt_of_le h7 hn, by rw [k2]; exact h8, h9.same hlook⟩)
theorem ldn_more {n : Nat} {h h' : Heap} {p v : AV} (hg : ∀ l, h.get l ≠ none → h'.get l = h.get l) (e : ldn n h p (fun v => some (v, h)) = some (v, h)) : ldn n h' p (fun v => some (v, h')) = some (v, h') := by
  unfold ldn at e ⊢
  split at e
  · rename_i l o
    unfold cellsAt at e ⊢
    have hne : h.get l ≠ none := by intro hh; simp [hh] at e
    simp only [hg l hne]
    split at e
    · obtain ⟨u, hu, e⟩ := getL_inv e; cases e; simp only [hu, getL]
    · obtain ⟨u, hu, e⟩ := getL_inv e; cases e; simp only [hu, getL]
    · cases e
  · cases e
theorem ld_more {h h' : Heap} {p v : AV} (hg : ∀ l, h.get l ≠ none → h'.get l = h.get l) (e : ld h p (fun v => some (v, h)) = some (v, h)) : ld h' p (fun v => some (v, h')) = some (v, h') := by
  unfold ld at e ⊢
  split at e
  · rename_i l o
    unfold cellsAt at e ⊢
    have hne : h.get l ≠ none := by intro hh; simp [hh] at e
    simp only [hg l hne]
    split at e
    · obtain ⟨u, hu, e⟩ := get1_inv e; cases e; simp only [hu, get1]
    · obtain ⟨u, hu, e⟩ := get1_inv e; cases e; simp only [hu, get1]
    · cases e
  · cases e
theorem load_more {t : TypeId} {x : Operand} {h h' : Heap} {v : AV} (hg : ∀ l, h.get l ≠ none → h'.get l = h.get l) (e : evOp P rec tm (.load t x) h pair = some (v, h)) : evOp P rec tm (.load t x) h' pair = some (v, h') := by
  simp only [evOp, aggB] at e ⊢
  split at e
  · exact ldn_more hg e
  · exact ldn_more hg e
  · exact ld_more hg e
  · cases e
theorem bf {c x : Bool} (h : (bif c then x else false) = true) : c = true ∧ x = true := by cases c <;> simp_all
theorem bb {a b : Bool} (h : (bif a then b else !b) = true) : a = b := by cases a <;> cases b <;> simp_all
theorem same1_eq {a b : AV} (h : same1 a b = true) : a = b := by
  unfold same1 at h
  split at h
  · rw [bb h]
  · obtain ⟨h1, h2⟩ := bf h
    rw [ieq_eq] at h2
    rw [keq_eq h1, eq_of_beq h2]
  · rw [seq_eq] at h
    rw [eq_of_beq h]
  · rfl
  · obtain ⟨h1, h2⟩ := bf h
    rw [beq_eq h1, beq_eq h2]
  · rfl
  · obtain ⟨h1, h2⟩ := bf h
    obtain ⟨h2, h3⟩ := bf h2
    obtain ⟨h3, h4⟩ := bf h3
    rw [beq_eq h1, beq_eq h2, beq_eq h3, beq_eq h4]
  · obtain ⟨h1, h2⟩ := bf h
    obtain ⟨h2, h3⟩ := bf h2
    obtain ⟨h3, h4⟩ := bf h3
    obtain ⟨h4, h5⟩ := bf h4
    rw [beq_eq h1, beq_eq h2, beq_eq h3, beq_eq h4, beq_eq h5]
  · rfl
  · rw [beq_eq h]
  · rfl
  · cases h
theorem sames_eq : ∀ {a b : List AV}, sames a b = true → a = b
  | [], [], _ => rfl
  | [], _ :: _, h => by simp [sames] at h
  | _ :: _, [], h => by simp [sames] at h
  | a :: l, b :: r, h => by
    simp only [sames] at h
    obtain ⟨h1, h2⟩ := bf h
    rw [same1_eq h1, sames_eq h2]
theorem same_eq {a b : AV} (h : same a b = true) : a = b := by
  unfold same at h
  split at h
  · rw [sames_eq h]
  · exact same1_eq h
section
variable {R : Type} {out : R}
theorem rchk_inv {a : Bool} {n : Nat} {h : Heap} {p v : AV} {k : Option R} (e : rchk a n h p v k = some out) :
    k = some out ∧ (if a = true then ldn n h p (fun v => some (v, h)) = some (v, h) else ld h p (fun v => some (v, h)) = some (v, h)) := by
  unfold rchk at e
  cases a
  · simp only [cond_false] at e
    unfold ld at e ⊢
    split at e
    · obtain ⟨cs, hc, e⟩ := cellsAt_inv e
      obtain ⟨u, hu, e⟩ := get1_inv e
      obtain ⟨h1, e1⟩ := bif_inv e
      have := same_eq h1
      subst this
      refine ⟨e1, ?_⟩
      rcases hc with hc | hc <;> simp [cellsAt, hc, hu, get1]
    · cases e
  · simp only [cond_true] at e
    unfold ldn at e ⊢
    split at e
    · obtain ⟨cs, hc, e⟩ := cellsAt_inv e
      obtain ⟨u, hu, e⟩ := getL_inv e
      obtain ⟨h1, e1⟩ := bif_inv e
      have := same_eq h1
      subst this
      refine ⟨e1, ?_⟩
      rcases hc with hc | hc <;> simp [cellsAt, hc, hu, getL]
    · cases e
theorem chk_inv {a : Bool} {n : Nat} {h : Heap} {p v : AV} (hv : ∀ vs, v ≠ .tup vs) (e : chkS a n h p v = true) :
    if a = true then ldn n h p (fun v => some (v, h)) = some (v, h) else ld h p (fun v => some (v, h)) = some (v, h) := by
  have h1 : (rchk a n h p v (some ())).isSome = true := by
    unfold chkS at e
    split at e
    · rename_i vs; exact absurd rfl (hv vs)
    · exact e
  obtain ⟨x, hx⟩ := Option.isSome_iff_exists.1 h1
  exact (rchk_inv hx).2
theorem rchks_inv {i : Nat} {h : Heap} {k : Option R} : ∀ {l : List Seen}, rchks B i h l k = some out →
    k = some out ∧ ∀ s ∈ l, befL B s.i i = true ∨ chkS s.agg s.n h s.p s.v = true
  | [], e => ⟨e, by simp⟩
  | s :: l, e => by
    simp only [rchks] at e
    cases hb : befL B s.i i
    · rw [hb] at e
      simp only [cond_false] at e
      obtain ⟨h1, e⟩ := bif_inv e
      obtain ⟨e, h2⟩ := rchks_inv e
      refine ⟨e, fun s' hs' => ?_⟩
      rcases List.mem_cons.1 hs' with rfl | hs'
      · exact .inr h1
      · exact h2 s' hs'
    · rw [hb] at e
      simp only [cond_true] at e
      obtain ⟨e, h2⟩ := rchks_inv e
      refine ⟨e, fun s' hs' => ?_⟩
      rcases List.mem_cons.1 hs' with rfl | hs'
      · exact .inl hb
      · exact h2 s' hs'
end
theorem load_notup {t : TypeId} {x : Operand} {h h' : Heap} {v : AV} (hall : ∀ l cs, (h.get l = some (.cells cs) ∨ h.get l = some (.tab cs)) → all1 cs = true) (e : evOp P rec tm (.load t x) h pair = some (v, h')) : ∀ vs, v ≠ .tup vs := by
  simp only [evOp] at e
  rcases aggB_inv e with ⟨_, _, _, e⟩ | ⟨_, _, _, e⟩
  · unfold ldn at e
    split at e
    · obtain ⟨cs, _, e⟩ := cellsAt_inv e
      obtain ⟨u, _, e⟩ := getL_inv e
      cases e; simp
    · cases e
  · unfold ld at e
    split at e
    · obtain ⟨cs, hc, e⟩ := cellsAt_inv e
      obtain ⟨u, hu, e⟩ := get1_inv e
      cases e
      rintro vs rfl
      have := all1_get (hall _ _ hc) (by rw [← nth_eq]; exact hu)
      simp [cell1] at this
    · cases e
theorem load_again {t : TypeId} {x : Operand} {h h' : Heap} {v : AV} (e : evOp P rec tm (.load t x) h pair = some (v, h))
    (e' : if aggT P t = true then ldn (szOf P t) h' (evX P tm x) (fun v => some (v, h')) = some (v, h') else ld h' (evX P tm x) (fun v => some (v, h')) = some (v, h')) :
    evOp P rec tm (.load t x) h' pair = some (v, h') := by
  simp only [evOp, aggB] at e ⊢
  unfold aggT at e'
  cases hu : P.underlying t with
  | none => simp [hu] at e
  | some d => simp only [hu] at e' ⊢; cases d <;> (simp only [if_true, Bool.false_eq_true, if_false] at e'; exact e')
end
end
end Go.Ai
/-
  THE ABSTRACT INTERPRETER, REGIONS THAT DRAW THEIR ORDER, 5: whatever order is drawn, what the evaluator comes to is come to.
-/
namespace Go.Ai
open Go

section
variable {R : Type} {out : R} {C : Ctx} {rec : Rec} {ops : Array Oper} {B order : List Nat} {k : List AV → Heap → Option R} {β0 : Be} {h0 : Heap} {w0 : World} {a0 : Act}
/-- Where the evaluator is, and what has truly been carried out. -/
structure Sim (C : Ctx) (rec : Rec) (ops : Array Oper) (B order : List Nat) (k : List AV → Heap → Option R) (out : R) (β0 : Be) (h0 : Heap) (w0 : World) (a0 : Act)
    (listed : Array Bool) (dn rest : List Nat) (l : List Seen) (tm : List AV) (h : Heap) (β : Be) (nm : Nat → Option Nat) (a : Act) (w : World) : Prop where
  split : order = dn ++ rest
  run : evD C.P rec ops B rest l tm h k = some out
  size : listed.size = ops.size
  inDn : ∀ i, isL listed i = true → i ∈ dn
  effs : ∀ i ∈ dn, effAt C.P ops i = true → isL listed i = true
  closed : ClosedL ops listed
  rel : HRel C β h w
  ext : Ext β0 h0 w0 β h w
  len : tm.length = a.tmps.size
  len0 : a.tmps.size = a0.tmps.size
  defs : a.defers = a0.defers
  slots : ∀ t, (∀ i ∈ dn, isL listed i = false → dstAt ops i ≠ some t) → VRel β (tget tm t) (a.tmps.getD t undef)
  late : ∀ i ∈ dn, isL listed i = false → Late C.P rec ops β h0.next tm h l (nm i) i
  nmlt : ∀ i ∈ dn, isL listed i = false → ∀ x, nm i = some x → x < h.next
  inj : ∀ i j x, i ∈ dn → j ∈ dn → isL listed i = false → isL listed j = false → nm i = some x → nm j = some x → i = j
def Head (P : Program) (ops : Array Oper) (rest : List Nat) : Prop := ∀ i post, rest = i :: post → effAt P ops i = true
def SimE (C : Ctx) (rec : Rec) (ops : Array Oper) (B order : List Nat) (k : List AV → Heap → Option R) (out : R) (β0 : Be) (h0 : Heap) (w0 : World) (a0 : Act) (listed : Array Bool) (a : Act) (w : World) : Prop :=
  ∃ dn rest l tm h β nm, Sim C rec ops B order k out β0 h0 w0 a0 listed dn rest l tm h β nm a w ∧ Head C.P ops rest

theorem HRel.ghost {β : Be} {h : Heap} {w : World} (r : HRel C β h w) (o : Obj) (ho : ∀ {cs : List AV}, (o = .cells cs ∨ o = .tab cs) → all1 cs = true) : HRel C β (h.push o) w := by
  have hp : ∀ l p, β l = some p → (h.push o).get l = h.get l := fun l p e => by rw [Heap.get_push, if_neg (by have := r.dom l p e; omega)]
  refine ⟨fun l p e => by have := r.dom l p e; simp; omega, r.lt, fun l l' p p' q q' e e' g g' hb => ?_, fun l p q e g => ?_, r.glob, fun l hl => ?_, fun l cs hl => ?_⟩
  · rw [hp l p e] at g; rw [hp l' p' e'] at g'
    exact r.inj l l' p p' q q' e e' g g' hb
  · rw [hp l p e] at g
    exact r.obj l p q e g
  · simp at hl
    rw [Heap.get_push, if_neg (by omega)]
    exact r.fin l (by omega)
  · rw [Heap.get_push] at hl
    by_cases hn : h.next = l
    · rw [if_pos hn] at hl; exact ho (by simpa using hl)
    · rw [if_neg hn] at hl; exact r.rows l cs hl
theorem Ext.ghost {β : Be} {h : Heap} {w : World} (x : Ext β0 h0 w0 β h w) (r : HRel C β h w) (o : Obj) : Ext β0 h0 w0 β (h.push o) w := by
  refine ⟨x.sub, x.new, by have := x.next; simp; omega, x.size, x.keep, fun l p cs e hc => ?_, fun l e hl => ?_, x.os, x.tape, x.output, x.frz⟩
  · have := r.dom l p (x.sub l p e)
    rw [Heap.get_push, if_neg (by omega)]
    exact x.tabs l p cs e hc
  · have := x.next
    rw [Heap.get_push, if_neg (by omega)]
    exact x.out l e hl
theorem get_ne_none {h : Heap} {β : Be} {w : World} (r : HRel C β h w) (o : Obj) : ∀ l, h.get l ≠ none → (h.push o).get l = h.get l := fun l hl => by
  rw [Heap.get_push, if_neg]
  intro hh
  exact hl (r.fin l (by omega))
theorem effAt_of {o : Oper} {i : Nat} {P : Program} (ho : ops[i]? = some o) : effAt P ops i = isEff P o.op := by simp [effAt, ho]
theorem dstAt_of {o : Oper} {i : Nat} (ho : ops[i]? = some o) : dstAt ops i = o.dst := by simp [dstAt, ho]
theorem namesAt_of {o : Oper} {i : Nat} (ho : ops[i]? = some o) : namesAt ops i = namesOf ops o := by simp [namesAt, ho]
theorem looksAt_of {o : Oper} {i : Nat} (ho : ops[i]? = some o) : looksAt ops i = looksOf ops o := by simp [looksAt, ho]

/-- THE EVALUATOR GOES ON over one that does not act. -/
theorem Sim.go {listed : Array Bool} {dn rest : List Nat} {l : List Seen} {tm : List AV} {h : Heap} {β : Be} {nm : Nat → Option Nat} {a : Act} {w : World} {i : Nat}
    (s : Sim C rec ops B order k out β0 h0 w0 a0 listed dn (i :: rest) l tm h β nm a w) (pl : PlanAt C.P ops B dn i) (hne : effAt C.P ops i = false) :
    ∃ l' tm' h' nm', Sim C rec ops B order k out β0 h0 w0 a0 listed (dn ++ [i]) rest l' tm' h' β nm' a w := by
  obtain ⟨o, ho, hpre⟩ := pl.op
  have hni : isL listed i = false := by
    cases hh : isL listed i
    · rfl
    · exact absurd (s.inDn i hh) pl.fresh
  have hne' : isEff C.P o.op = false := by rw [← effAt_of ho]; exact hne
  have hdl : ∀ t, o.dst = some t → t ∉ looksOf ops o := fun t ht => by
    rcases pl.own with h | h
    · rw [hne] at h; cases h
    · have := offD_not (t := t) h (by rw [dstAt_of ho]; exact ht)
      rwa [looksAt_of ho] at this
  have hself : ∀ v, ∀ t ∈ looksOf ops o, tget tm t = tget (tput tm o.dst v) t := fun v t ht => by
    rw [tget_tput, if_neg]
    rintro ⟨hd, _⟩
    exact hdl t hd ht
  have hold : ∀ p ∈ dn, isL listed p = false → ∀ v, ∀ t ∈ namesAt ops p, tget tm t = tget (tput tm o.dst v) t := fun p hp hu v t ht => by
    rw [tget_tput, if_neg]
    rintro ⟨hd, _⟩
    rcases pl.war p hp with h | h | ⟨h, _⟩
    · exact offD_not h (by rw [dstAt_of ho]; exact hd) ht
    · rw [s.effs p hp h] at hu; cases hu
    · rw [hne] at h; cases h
  have hslots : ∀ v, ∀ t, (∀ j ∈ dn ++ [i], isL listed j = false → dstAt ops j ≠ some t) → VRel β (tget (tput tm o.dst v) t) (a.tmps.getD t undef) := fun v t ht => by
    rw [tget_tput, if_neg]
    · exact s.slots t fun j hj hu => ht j (by simp [hj]) hu
    · rintro ⟨hd, _⟩
      exact ht i (by simp) hni (by rw [dstAt_of ho]; exact hd)
  have hdst : ∀ v, DstIs (tput tm o.dst v) o.dst v := fun v t ht hlt => by
    rw [tput_length] at hlt
    rw [tget_tput, if_pos ⟨ht, hlt⟩]
  have hinDn : ∀ j, isL listed j = true → j ∈ dn ++ [i] := fun j hj => by simp [s.inDn j hj]
  have heffs : ∀ j ∈ dn ++ [i], effAt C.P ops j = true → isL listed j = true := fun j hj he => by
    rcases List.mem_append.1 hj with hj | hj
    · exact s.effs j hj he
    · simp at hj; subst hj; rw [hne] at he; cases he
  have hsplit : order = (dn ++ [i]) ++ rest := by rw [s.split]; simp
  have hrun := s.run
  simp only [evD, ho] at hrun
  have hrun1 := bnd_inv hrun
  clear hrun
  obtain ⟨v0, hv0, hw0, hrun⟩ := hrun1
  rw [want_eq] at hw0
  rw [hne'] at hrun
  simp only [cond_false] at hrun
  have keepnm : ∀ x : Option Nat, ∀ j, j ∈ dn → (if j = i then x else nm j) = nm j := fun x j hj => if_neg (by rintro rfl; exact pl.fresh hj)
  have mkinj : ∀ (x : Option Nat), (∀ y, x = some y → ∀ j ∈ dn, isL listed j = false → nm j ≠ some y) → ∀ p q y, p ∈ dn ++ [i] → q ∈ dn ++ [i] → isL listed p = false → isL listed q = false →
      (if p = i then x else nm p) = some y → (if q = i then x else nm q) = some y → p = q := by
    intro x hx p q y hp hq hup huq e1 e2
    by_cases h1 : p = i <;> by_cases h2 : q = i
    · rw [h1, h2]
    · rw [if_pos h1] at e1; rw [if_neg h2] at e2
      have hq : q ∈ dn := by rcases List.mem_append.1 hq with h | h; exact h; simp at h; exact absurd h h2
      exact absurd e2 (hx y e1 q hq huq)
    · rw [if_neg h1] at e1; rw [if_pos h2] at e2
      have hp : p ∈ dn := by rcases List.mem_append.1 hp with h | h; exact h; simp at h; exact absurd h h1
      exact absurd e1 (hx y e2 p hp hup)
    · rw [if_neg h1] at e1; rw [if_neg h2] at e2
      have hp : p ∈ dn := by rcases List.mem_append.1 hp with h | h; exact h; simp at h; exact absurd h h1
      have hq : q ∈ dn := by rcases List.mem_append.1 hq with h | h; exact h; simp at h; exact absurd h h2
      exact s.inj p q y hp hq hup huq e1 e2
  -- the rest, for each of the three kinds
  have fin : ∀ (v : AV) (l' : List Seen) (h' : Heap) (x : Option Nat), evD C.P rec ops B rest l' (tput tm o.dst v) h' k = some out → HRel C β h' w → Ext β0 h0 w0 β h' w → (∀ s ∈ l, s ∈ l') → h.next ≤ h'.next →
      (∀ j, h.get j ≠ none → h'.get j = h.get j) → (∀ j, j < h.next → h'.get j = h.get j) → (∀ y, x = some y → y < h'.next) → (∀ y, x = some y → ∀ j ∈ dn, isL listed j = false → nm j ≠ some y) → Late C.P rec ops β h0.next (tput tm o.dst v) h' l' x i →
      ∃ l' tm' h' nm', Sim C rec ops B order k out β0 h0 w0 a0 listed (dn ++ [i]) rest l' tm' h' β nm' a w := by
    intro v l' h' x e1 e2 e3 e4 e5 e6 e7 e8 e9 e10
    refine ⟨l', tput tm o.dst v, h', fun j => if j = i then x else nm j, hsplit, e1, s.size, hinDn, heffs, s.closed, e2, e3, by rw [tput_length]; exact s.len, s.len0, s.defs, hslots _, fun p hp hu => ?_, fun p hp hu y e => ?_, mkinj x e9⟩
    · rcases List.mem_append.1 hp with hp | hp
      · show Late C.P rec ops β h0.next _ h' l' (if p = i then x else nm p) p
        rw [keepnm x p hp]
        exact (s.late p hp hu).step (hold p hp hu _) (tput_length _ _ _) e4 (fun _ _ _ _ _ e h _ => by rw [e] at h ⊢; exact load_more e6 h) e5 (fun y _ e hy => ⟨e, e7 y hy⟩)
      · simp at hp; subst hp
        show Late C.P rec ops β h0.next _ h' l' (if p = p then x else nm p) p
        rw [if_pos rfl]
        exact e10
    · have e : (if p = i then x else nm p) = some y := e
      by_cases hpi : p = i
      · rw [if_pos hpi] at e; exact e8 y e
      · rw [if_neg hpi] at e
        have hp : p ∈ dn := by rcases List.mem_append.1 hp with h | h; exact h; simp at h; exact absurd h hpi
        exact Nat.lt_of_lt_of_le (s.nmlt p hp hu y e) e5
  have hmem : ∀ v, ∀ sn ∈ l, sn ∈ note C.P i o.op tm v l := fun v sn hs => by
    unfold note
    split
    · exact List.mem_cons_of_mem _ hs
    · exact hs
  cases hw : wantB ops o tm with
  | none => rw [hw] at hw0; cases hw0
  | some b =>
    rw [hw] at hw0
    cases b with
    | false =>
      cases hw0
      exact fin (.tup []) _ h none hrun s.rel s.ext (hmem _) (Nat.le_refl _) (fun _ _ => rfl) (fun _ _ => rfl) (by simp) (by simp)
        ⟨o, ho, hne', .inl ⟨by rw [← wantB_same (hself _)]; exact hw, hdst _⟩⟩
    | true =>
      have e1 : evOp C.P rec tm o.op h pair = some (v0, hv0) := hw0
      generalize v0 = v at e1 hrun
      generalize hv0 = h' at e1 hrun
      have hwt : wantB ops o (tput tm o.dst v) = some true := by rw [← wantB_same (hself _)]; exact hw
      rcases kinds o.op hne' e1 with ⟨rfl, hp⟩ | ⟨rfl, t, x, hop⟩ | ⟨f, ob, rfl, rfl, hl⟩
      · exact fin v _ _ none hrun s.rel s.ext (hmem v) (Nat.le_refl _) (fun _ _ => rfl) (fun _ _ => rfl) (by simp) (by simp)
          ⟨o, ho, hne', .inr ⟨hwt, v, hdst _, .inl fun hp2 => by rw [← evOp_same (hself _)]; exact hp hp2⟩⟩
      · refine fin v _ _ none hrun s.rel s.ext (hmem v) (Nat.le_refl _) (fun _ _ => rfl) (fun _ _ => rfl) (by simp) (by simp)
          ⟨o, ho, hne', .inr ⟨hwt, v, hdst _, .inr (.inl ⟨by rw [← evOp_same (hself _)]; exact e1, t, x, hop, ?_⟩)⟩⟩
        rw [← evX_same (P := C.P) (hself v) (x := x) (by rw [hop]; simp [Op.operands]), hop]
        exact List.mem_cons_self
      · refine fin (f h.next) _ _ (some h.next) hrun (s.rel.ghost ob hl.2.1.rows) (s.ext.ghost s.rel ob) (hmem _) (by simp) (get_ne_none s.rel ob) (fun j hj => by rw [Heap.get_push, if_neg (by omega)]) (fun y e => by cases e; simp) (fun y e j hj hu => ?_)
          ⟨o, ho, hne', .inr ⟨hwt, _, hdst _, .inr (.inr ⟨f, ob, h.next, rfl, rfl, ?_, s.ext.next, by simp, by rw [Heap.get_push, if_pos rfl], hl.same (hself _)⟩)⟩⟩
        · cases e
          intro hn
          have := s.nmlt j hj hu _ hn
          omega
        · cases hb : β h.next with
          | none => rfl
          | some p => have := s.rel.dom _ _ hb; omega
theorem sim_catch {listed : Array Bool} {a : Act} {w : World} (pp : PlanP C.P ops B order) : ∀ (rest dn : List Nat) (l : List Seen) (tm : List AV) (h : Heap) (β : Be) (nm : Nat → Option Nat), Sim C rec ops B order k out β0 h0 w0 a0 listed dn rest l tm h β nm a w →
    SimE C rec ops B order k out β0 h0 w0 a0 listed a w
  | [], dn, l, tm, h, β, nm, s => ⟨dn, [], l, tm, h, β, nm, s, fun _ _ e => by cases e⟩
  | i :: rest, dn, l, tm, h, β, nm, s => by
    cases he : effAt C.P ops i with
    | true => exact ⟨dn, i :: rest, l, tm, h, β, nm, s, fun j post e => by cases e; exact he⟩
    | false =>
      obtain ⟨l', tm', h', nm', s'⟩ := s.go (pp.at' dn i rest s.split) he
      exact sim_catch pp rest _ l' tm' h' β nm' s'

/-! ### What is truly carried out -/
def restr (ks : List Nat) (tm : List AV) : List AV := tm.mapIdx fun t v => if ks.contains t then v else .bot
theorem restr_length (ks : List Nat) (tm : List AV) : (restr ks tm).length = tm.length := by simp [restr]
theorem tget_restr (ks : List Nat) (tm : List AV) (t : Nat) : tget (restr ks tm) t = if t ∈ ks then tget tm t else .bot := by
  by_cases hlt : t < tm.length
  · have h1 := tget_lt (restr ks tm) t (by rw [restr_length]; exact hlt)
    have h2 := tget_lt tm t hlt
    simp only [restr, List.getElem?_mapIdx, ← h2, Option.map_some, Option.some.injEq] at h1
    rw [restr, h1]
    by_cases hk : t ∈ ks <;> simp [hk]
  · rw [tget_ge _ _ (by rw [restr_length]; omega), tget_ge tm t (by omega)]
    split <;> rfl
theorem set_isL {listed : Array Bool} {j : Nat} (hj : j < listed.size) (i : Nat) : isL (listed.setIfInBounds j true) i = if i = j then true else isL listed i := by
  unfold isL
  simp only [Array.getD_eq_getD_getElem?]
  by_cases h : i = j
  · subst h; simp [hj]
  · rw [Array.getElem?_setIfInBounds_ne (Ne.symm h), if_neg h]
theorem slots_put {β' : Be} {tm : List AV} {a : Act} {d : Option Tmp} {v : AV} {x : Value} (hlen : tm.length = a.tmps.size) (hv : VRel β' v x) (t : Nat) (hd : DstIs tm d v) (h : d ≠ some t → VRel β' (tget tm t) (a.tmps.getD t undef)) :
    VRel β' (tget tm t) ((a.put d x).tmps.getD t undef) := by
  cases d with
  | none => exact h (by simp)
  | some d =>
    by_cases hdt : d = t
    · subst hdt
      by_cases hlt : d < tm.length
      · rw [hd d rfl hlt]
        have : d < a.tmps.size := by rw [← hlen]; exact hlt
        simpa [Act.put, Array.getD_eq_getD_getElem?, this] using hv
      · rw [tget_ge _ _ (Nat.le_of_not_lt hlt)]; simp [VRel]
    · have e : (a.put (some d) x).tmps.getD t undef = a.tmps.getD t undef := by
        simp [Act.put, Array.getD_eq_getD_getElem?, hdt]
      rw [e]
      exact h (by simpa using hdt)
/-- One that was passed is carried out. -/
theorem Sim.list {listed : Array Bool} {dn rest : List Nat} {l : List Seen} {tm : List AV} {h : Heap} {β β' : Be} {nm : Nat → Option Nat} {a : Act} {w w' : World} {j : Nat} {o : Oper} {v : AV} {x : Value}
    (s : Sim C rec ops B order k out β0 h0 w0 a0 listed dn rest l tm h β nm a w) (hj : j ∈ dn) (hu : isL listed j = false) (hjs : j < listed.size) (ho : ops[j]? = some o) (hpre : ∀ e ∈ o.after, Region.binds .any e = true → isL listed e.on = true)
    (hd : DstIs tm o.dst v) (hv : VRel β' v x) (hs : Sub β β') (r' : HRel C β' h w') (x' : Ext β0 h0 w0 β' h w')
    (hn : ∀ p ∈ dn, isL listed p = false → p ≠ j → ∀ y, nm p = some y → β y = none → β' y = none) :
    Sim C rec ops B order k out β0 h0 w0 a0 (listed.setIfInBounds j true) dn rest l tm h β' nm (a.put o.dst x) w' := by
  have hl := set_isL hjs
  have hmono : ∀ i, isL listed i = true → isL (listed.setIfInBounds j true) i = true := fun i hi => by rw [hl]; split <;> simp [hi]
  have hun : ∀ i, isL (listed.setIfInBounds j true) i = false → i ≠ j ∧ isL listed i = false := fun i hi => by
    rw [hl] at hi
    split at hi
    · cases hi
    · exact ⟨by assumption, hi⟩
  refine ⟨s.split, s.run, by simp [s.size], fun i hi => ?_, fun i hi he => hmono i (s.effs i hi he), fun i o' ho' hi e he hb => ?_, r', x', by rw [put_size]; exact s.len, by rw [put_size]; exact s.len0, by rw [put_defers]; exact s.defs, fun t ht => ?_, fun i hi hiu => ?_, fun i hi hiu => s.nmlt i hi (hun i hiu).2, fun p q y hp hq hpu hqu => s.inj p q y hp hq (hun p hpu).2 (hun q hqu).2⟩
  · rw [hl] at hi
    split at hi
    · subst_vars; exact hj
    · exact s.inDn i hi
  · rw [hl] at hi
    split at hi
    · subst_vars
      rw [ho] at ho'; cases ho'
      exact hmono _ (hpre e he hb)
    · exact hmono _ (s.closed i o' ho' hi e he hb)
  · refine slots_put s.len hv t hd fun hne => (s.slots t fun i hi hiu => ?_).mono hs
    by_cases hij : i = j
    · subst hij; rw [dstAt_of ho]; exact hne
    · exact ht i hi (by rw [hl, if_neg hij]; exact hiu)
  · obtain ⟨h1, h2⟩ := hun i hiu
    exact (s.late i hi h2).step (fun _ _ => rfl) rfl (fun _ h => h) (fun _ _ _ _ _ _ e _ => e) (Nat.le_refl _) (fun y e hy _ => ⟨hn i hi h2 h1 y e hy, rfl⟩)
variable {ro : Option Nat} {Q : Exit → Act → World → Prop}
theorem ready_spec {listed : Array Bool} {j : Nat} (hj : j ∈ Region.ready .any ops listed) (hsz : listed.size = ops.size) :
    j < listed.size ∧ isL listed j = false ∧ ∃ o, ops[j]? = some o ∧ ∀ e ∈ o.after, Region.binds .any e = true → isL listed e.on = true := by
  obtain ⟨h1, o, h2, h3⟩ := mem_ready.1 hj
  have hlt : j < ops.size := (Array.getElem?_eq_some_iff.1 h2).1
  refine ⟨by omega, ?_, o, h2, h3⟩
  unfold isL
  rw [← hsz] at hlt
  simpa [Array.getD_eq_getD_getElem?, hlt] using h1
/-- what an operation looks at is there -/
theorem Sim.sees {listed : Array Bool} {dn rest : List Nat} {l : List Seen} {tm : List AV} {h : Heap} {β : Be} {nm : Nat → Option Nat} {a : Act} {w : World} {j : Nat} {o : Oper}
    (s : Sim C rec ops B order k out β0 h0 w0 a0 listed dn rest l tm h β nm a w) (ho : ops[j]? = some o)
    (hw : ∀ p ∈ dn, isL listed p = false → ∀ t, dstAt ops p = some t → t ∉ looksOf ops o) : TRel β (restr (looksOf ops o) tm) a.tmps := by
  refine ⟨by rw [restr_length]; exact s.len, fun t => ?_⟩
  rw [tget_restr]
  by_cases ht : t ∈ looksOf ops o
  · rw [if_pos ht]
    exact s.slots t fun i hi hiu hd => hw i hi hiu t hd ht
  · rw [if_neg ht]; simp [VRel]
theorem restr_same {o : Oper} {tm : List AV} : ∀ t ∈ looksOf ops o, tget tm t = tget (restr (looksOf ops o) tm) t := fun t ht => by rw [tget_restr, if_pos ht]
theorem befs {listed : Array Bool} {j p : Nat} {o : Oper} (hc : ClosedL ops listed) (ho : ops[j]? = some o) (hpre : ∀ e ∈ o.after, Region.binds .any e = true → isL listed e.on = true) (hB : B = (Region.before ops).toList) (hb : befL B p j = true) : isL listed p = true :=
  bef_listed hc j j (Nat.le_refl _) (by rw [← befL_eq hB]; exact hb) fun o' ho' => by rw [ho] at ho'; cases ho'; exact hpre
theorem step_ok (hrec : RecOk C rec) (pp : PlanP C.P ops B order) {listed : Array Bool} {a : Act} {w : World} {j : Nat} (se : SimE C rec ops B order k out β0 h0 w0 a0 listed a w) (hj : j ∈ Region.ready .any ops listed) :
    wpOpIn (Wd ro) 0 C.P ops Q j (fun a' w' => SimE C rec ops B order k out β0 h0 w0 a0 (listed.setIfInBounds j true) a' w') a w := by
  obtain ⟨dn, rest, l, tm, h, β, nm, s, hd⟩ := se
  obtain ⟨hjs, hju, o, ho, hpre⟩ := ready_spec hj s.size
  have hjo : j ∈ order := pp.all j (by rw [← s.size]; exact hjs)
  rw [s.split] at hjo
  unfold wpOpIn
  simp only [ho]
  rcases List.mem_append.1 hjo with hjd | hjr
  · -- it was passed
    obtain ⟨o', ho', hne, hl⟩ := s.late j hjd hju
    rw [ho] at ho'; cases ho'
    -- its place in the plan
    obtain ⟨d1, d2, hd12⟩ := List.append_of_mem hjd
    have pl := pp.at' d1 j (d2 ++ rest) (by rw [s.split, hd12]; simp)
    have hsee : ∀ p ∈ dn, isL listed p = false → ∀ t, dstAt ops p = some t → t ∉ looksOf ops o := by
      intro p hp hpu t ht hin
      rw [hd12] at hp
      rcases List.mem_append.1 hp with hp1 | hp1
      · rcases pl.raw p hp1 with h1 | h1
        · exact offD_not h1 ht (by rw [namesAt_of ho]; exact List.mem_append_right _ hin)
        · rw [befs s.closed ho hpre pp.bef h1] at hpu; cases hpu
      · rcases List.mem_cons.1 hp1 with rfl | hp2
        · rcases pl.own with h1 | h1
          · rw [s.effs p hjd h1] at hju; cases hju
          · exact offD_not h1 ht (by rw [looksAt_of ho]; exact hin)
        · obtain ⟨e1, e2, he12⟩ := List.append_of_mem hp2
          have pl2 := pp.at' (d1 ++ j :: e1) p (e2 ++ rest) (by rw [s.split, hd12, he12]; simp)
          rcases pl2.war j (by simp) with h1 | h1 | ⟨h1, _⟩
          · exact offD_not h1 ht (by rw [namesAt_of ho]; exact List.mem_append_right _ hin)
          · rw [s.effs j hjd h1] at hju; cases hju
          · have hpdn : p ∈ dn := by rw [hd12]; simp [hp2]
            rw [s.effs p hpdn h1] at hpu; cases hpu
    have tr := s.sees ho hsee
    rcases hl with ⟨h1, h2⟩ | ⟨h1, v, h2, h3⟩
    · have hwt : want ops o (restr (looksOf ops o) tm) (some true) (some false) = some false := by
        have := h1; rw [wantB_same restr_same] at this; exact this
      rcases want_ok tr hwt with ⟨_, e⟩ | ⟨hw, _⟩
      · cases e
      · simp only [hw, Bool.false_eq_true, if_false]
        exact ⟨fun _ _ => trivial, dn, rest, l, tm, h, β, nm, s.list hjd hju hjs ho hpre h2 VRel.undef (Sub.refl β) s.rel s.ext (fun _ _ _ _ _ _ e => e), hd⟩
    · have hwt : want ops o (restr (looksOf ops o) tm) (some true) (some false) = some true := by
        have := h1; rw [wantB_same restr_same] at this; exact this
      rcases want_ok tr hwt with ⟨hw, _⟩ | ⟨_, e⟩
      · simp only [hw, if_true]
        have plain : evOp C.P rec tm o.op h pair = some (v, h) → o.wpIn (Wd ro) 0 C.P a w (fun a' w' => SimE C rec ops B order k out β0 h0 w0 a0 (listed.setIfInBounds j true) a' w') Q := by
          intro e
          rw [evOp_same restr_same] at e
          refine evOp_ok hrec o s.rel tr e ?_
          rintro x w' ⟨β', u, h', e', hv, r', x'⟩
          cases e'
          refine ⟨dn, rest, l, tm, h, β', nm, s.list hjd hju hjs ho hpre h2 hv x'.sub r' (s.ext.trans x') (fun p hp hpu _ y hy hby => ?_), hd⟩
          cases hb : β' y with
          | none => rfl
          | some q =>
            rcases x'.new y q hb with h5 | ⟨h5, _⟩
            · rw [hby] at h5; cases h5
            · have := s.nmlt p hp hpu y hy; omega
        rcases h3 with h3 | ⟨h3, _⟩ | ⟨f, ob, l0, h3, rfl, h5, h6, h7, h8, h9⟩
        · exact plain (h3 h)
        · exact plain h3
        · have e := h9.2.2 h
          rw [evOp_same restr_same] at e
          refine evOp_ok hrec o s.rel tr e ?_
          rintro x w' ⟨β1, u, h', e', hv, r1, x1⟩
          cases e'
          obtain ⟨p1, hp1, hall⟩ := h9.1.at hv
          have hreal : OReal C β ob := h9.2.1.real fun y hy => by
            have hxr := evX_rel (a := a) s.rel tr y
            rw [← evX_same restr_same (by simpa using hy)] at hxr
            exact ⟨_, hxr⟩
          have r2 := HRel.realize s.rel r1 x1 h5 h7 h8 hp1 hreal
          refine ⟨dn, rest, l, tm, h, _, nm, s.list hjd hju hjs ho hpre h2 (hall _ l0 (by simp [Be.late])) (Be.late_sub s.rel x1 h5) r2 (s.ext.realize s.rel r1 x1 h5 h6 hp1) (fun p hp hpu hpj y hy hby => ?_), hd⟩
          refine Be.late_none s.rel r1 x1 ?_ hby
          rintro rfl
          exact hpj (s.inj p j y hp hjd hpu hju hy h3)
      · cases e
  · -- it acts
    cases rest with
    | nil => cases hjr
    | cons i rest =>
      have he := hd i rest rfl
      have pl := pp.at' dn i rest s.split
      have hij : j = i := by
        rcases List.mem_cons.1 hjr with rfl | hjr
        · rfl
        · exfalso
          obtain ⟨e1, e2, he12⟩ := List.append_of_mem hjr
          have pl2 := pp.at' (dn ++ i :: e1) j e2 (by rw [s.split, he12]; simp)
          exact pl.fresh (s.inDn i (befs s.closed ho hpre pp.bef (pl2.eff i (by simp) he)))
      subst hij
      have hsee : ∀ p ∈ dn, isL listed p = false → ∀ t, dstAt ops p = some t → t ∉ looksOf ops o := by
        intro p hp hpu t ht hin
        rcases pl.raw p hp with h1 | h1
        · exact offD_not h1 ht (by rw [namesAt_of ho]; exact List.mem_append_right _ hin)
        · rw [befs s.closed ho hpre pp.bef h1] at hpu; cases hpu
      have tr := s.sees ho hsee
      have hl := set_isL hjs
      have hmono : ∀ i, isL listed i = true → isL (listed.setIfInBounds j true) i = true := fun i hi => by rw [hl]; split <;> simp [hi]
      have hun : ∀ i, isL (listed.setIfInBounds j true) i = false → i ≠ j ∧ isL listed i = false := fun i hi => by
        rw [hl] at hi
        split at hi
        · cases hi
        · exact ⟨by assumption, hi⟩
      have hdn : ∀ p, p ∈ dn ++ [j] → p ≠ j → p ∈ dn := fun p hp hpj => by
        rcases List.mem_append.1 hp with h | h
        · exact h
        · simp at h; exact absurd h hpj
      have fin : ∀ (β' : Be) (v : AV) (h' : Heap) (x : Value) (w' : World), evD C.P rec ops B rest l (tput tm o.dst v) h' k = some out → HRel C β' h' w' → Ext β h w β' h' w' → VRel β' v x →
          (∀ p o' v' t x', p ∈ dn → isL listed p = false → ops[p]? = some o' → o'.op = .load t x' → evOp C.P rec tm o'.op h pair = some (v', h) → Seen.mk p (aggT C.P t) (szOf C.P t) (evX C.P tm x') v' ∈ l → evOp C.P rec tm o'.op h' pair = some (v', h')) →
          SimE C rec ops B order k out β0 h0 w0 a0 (listed.setIfInBounds j true) (a.put o.dst x) w' := by
        intro β' v h' x w' e1 r' x' hv hld
        refine sim_catch pp rest (dn ++ [j]) l (tput tm o.dst v) h' β' nm ⟨by rw [s.split]; simp, e1, by simp [s.size], fun i hi => ?_, fun i hi hie => ?_, fun i o' ho' hi e he hb => ?_, r', s.ext.trans x', by rw [tput_length, put_size]; exact s.len, by rw [put_size]; exact s.len0, by rw [put_defers]; exact s.defs,
          fun t ht => ?_, fun p hp hpu => ?_, fun p hp hpu y hy => ?_, fun p q y hp hq hpu hqu e1 e2 => ?_⟩
        · rw [hl] at hi
          split at hi
          · subst_vars; simp
          · simp [s.inDn i hi]
        · by_cases hij : i = j
          · rw [hl, if_pos hij]
          · exact hmono i (s.effs i (hdn i hi hij) hie)
        · rw [hl] at hi
          split at hi
          · subst_vars
            rw [ho] at ho'; cases ho'
            exact hmono _ (hpre e he hb)
          · exact hmono _ (s.closed i o' ho' hi e he hb)
        · refine slots_put (by rw [tput_length]; exact s.len) hv t (fun t ht hlt => by rw [tput_length] at hlt; rw [tget_tput, if_pos ⟨ht, hlt⟩]) fun hne => ?_
          rw [tget_tput, if_neg (fun hh => hne hh.1)]
          refine (s.slots t fun i hi hiu => ht i (by simp [hi]) ?_).mono x'.sub
          rw [hl, if_neg (by rintro rfl; exact pl.fresh hi)]; exact hiu
        · obtain ⟨h1, h2⟩ := hun p hpu
          have hpd := hdn p hp h1
          refine (s.late p hpd h2).step (fun t ht => ?_) (tput_length _ _ _) (fun _ h => h) (fun o' v' t x' ho' hop e hsn => hld p o' v' t x' hpd h2 ho' hop e hsn) x'.next (fun y e hy hlt => ⟨?_, x'.out y hy hlt⟩)
          · rw [tget_tput, if_neg]
            rintro ⟨hdt, _⟩
            rcases pl.war p hpd with h | h | ⟨_, h⟩
            · exact offD_not h (by rw [dstAt_of ho]; exact hdt) ht
            · rw [s.effs p hpd h] at h2; cases h2
            · rw [befs s.closed ho hpre pp.bef h] at h2; cases h2
          · cases hb : β' y with
            | none => rfl
            | some q =>
              rcases x'.new y q hb with h5 | ⟨h5, _⟩
              · rw [hy] at h5; cases h5
              · omega
        · obtain ⟨h1, h2⟩ := hun p hpu
          exact Nat.lt_of_lt_of_le (s.nmlt p (hdn p hp h1) h2 y hy) x'.next
        · obtain ⟨h1, h2⟩ := hun p hpu
          obtain ⟨h3, h4⟩ := hun q hqu
          exact s.inj p q y (hdn p hp h1) (hdn q hq h3) h2 h4 e1 e2
      have hrun := s.run
      simp only [evD, ho] at hrun
      obtain ⟨v, h', hw0, hrun⟩ := bnd_inv hrun
      rw [want_eq] at hw0
      rw [← effAt_of ho, he] at hrun
      simp only [cond_true] at hrun
      obtain ⟨e2, e3⟩ := rchks_inv hrun
      cases hw : wantB ops o tm with
      | none => rw [hw] at hw0; cases hw0
      | some b =>
        rw [hw] at hw0
        have hwt : want ops o (restr (looksOf ops o) tm) (some true) (some false) = some b := by
          have := hw; rw [wantB_same restr_same] at this; exact this
        cases b with
        | false =>
          cases hw0
          rcases want_ok tr hwt with ⟨_, e⟩ | ⟨hw, _⟩
          · cases e
          · simp only [hw, Bool.false_eq_true, if_false]
            exact ⟨fun _ _ => trivial, fin β (.tup []) h _ w e2 s.rel (Ext.refl _ _ _) VRel.undef (fun _ _ _ _ _ _ _ _ _ e _ => e)⟩
        | true =>
          rcases want_ok tr hwt with ⟨hw, _⟩ | ⟨_, e⟩
          · simp only [hw, if_true]
            have e1' : evOp C.P rec tm o.op h pair = some (v, h') := hw0
            rw [evOp_same restr_same] at e1'
            refine evOp_ok hrec o s.rel tr e1' ?_
            rintro x w' ⟨β', u, h'', e', hv, r', x'⟩
            cases e'
            refine fin β' v h' x w' e2 r' x' hv fun p o' v' t x2 hp hpu ho' hop e hsn => ?_
            rcases e3 _ hsn with h1 | h1
            · rw [befs s.closed ho hpre pp.bef h1] at hpu; cases hpu
            · rw [hop] at e ⊢
              exact load_again e (chk_inv (load_notup s.rel.rows e) h1)
          · cases e
theorem filter_less {p p' : Nat → Bool} {j : Nat} : ∀ {l : List Nat}, (∀ x, p' x = true → p x = true) → j ∈ l → p j = true → p' j = false → (l.filter p').length < (l.filter p).length
  | [], _, hj, _, _ => by cases hj
  | x :: l, hm, hj, h1, h2 => by
    have hle : ∀ l : List Nat, (l.filter p').length ≤ (l.filter p).length := by
      intro l
      induction l with
      | nil => simp
      | cons y l ih =>
        simp only [List.filter_cons]
        cases hy : p' y
        · cases p y <;> simp <;> omega
        · rw [hm y hy]; simp; exact ih
    rcases List.mem_cons.1 hj with rfl | hj
    · simp only [List.filter_cons, h1, h2, if_true, Bool.false_eq_true, if_false, List.length_cons]
      have := hle l
      omega
    · have := filter_less hm hj h1 h2
      simp only [List.filter_cons]
      cases hy : p' x
      · cases p x <;> simp <;> omega
      · rw [hm x hy]; simp; exact this
theorem first_unlisted {listed : Array Bool} : ∀ (l : List Nat), (∃ i ∈ l, isL listed i = false) → ∃ pre i post, l = pre ++ i :: post ∧ isL listed i = false ∧ ∀ j ∈ pre, isL listed j = true
  | [], h => by obtain ⟨i, hi, _⟩ := h; cases hi
  | x :: l, h => by
    cases hx : isL listed x with
    | false => exact ⟨[], x, l, rfl, hx, by simp⟩
    | true =>
      obtain ⟨i, hi, hu⟩ := h
      have hi : i ∈ l := by
        rcases List.mem_cons.1 hi with rfl | h
        · rw [hx] at hu; cases hu
        · exact h
      obtain ⟨pre, j, post, e, h1, h2⟩ := first_unlisted l ⟨i, hi, hu⟩
      exact ⟨x :: pre, j, post, by rw [e]; rfl, h1, fun q hq => by
        rcases List.mem_cons.1 hq with rfl | hq
        · exact hx
        · exact h2 q hq⟩
/-- none is ready: all has been carried out -/
theorem sim_end (pp : PlanP C.P ops B order) {listed : Array Bool} {a : Act} {w : World} (se : SimE C rec ops B order k out β0 h0 w0 a0 listed a w) (hr : Region.ready .any ops listed = [])
    (H : ∀ a' w', RDone C β0 h0 w0 k out a0 a' w' → Q .normal a' w') : Q .normal a w := by
  obtain ⟨dn, rest, l, tm, h, β, nm, s, hd⟩ := se
  have hall : ∀ i ∈ order, isL listed i = true := by
    intro i hi
    cases hu : isL listed i with
    | true => rfl
    | false =>
      exfalso
      obtain ⟨pre, j, post, e, h1, h2⟩ := first_unlisted order ⟨i, hi, hu⟩
      have pl := pp.at' pre j post e
      obtain ⟨o, ho, hpre⟩ := pl.op
      have hlt : j < ops.size := (Array.getElem?_eq_some_iff.1 ho).1
      have : j ∈ Region.ready .any ops listed := by
        rw [mem_ready]
        refine ⟨?_, o, ho, fun e he hb => h2 _ (hpre e he hb)⟩
        rw [← s.size] at hlt
        unfold isL at h1
        simpa [Array.getD_eq_getD_getElem?, hlt] using h1
      rw [hr] at this
      cases this
  cases rest with
  | cons i rest =>
    have pl := pp.at' dn i rest s.split
    exact absurd (s.inDn i (hall i (by rw [s.split]; simp))) pl.fresh
  | nil =>
    have hrun := s.run
    simp only [evD] at hrun
    refine H a w ⟨β, tm, h, hrun, s.rel, ⟨s.len, fun t => s.slots t fun i hi hu => ?_⟩, s.ext, s.defs, s.len0⟩
    rw [hall i (by rw [s.split]; simp [hi])] at hu; cases hu
theorem any_ok (hrec : RecOk C rec) (pp : PlanP C.P ops B order) (H : ∀ a' w', RDone C β0 h0 w0 k out a0 a' w' → Q .normal a' w') : ∀ (fuel : Nat) (listed : Array Bool) (a : Act) (w : World),
    SimE C rec ops B order k out β0 h0 w0 a0 listed a w → (order.filter fun i => !isL listed i).length ≤ fuel → wpAnyIn (Wd ro) 0 C.P .any ops Q fuel listed a w
  | 0, listed, a, w, se, hf => by
    have hr : Region.ready .any ops listed = [] := by
      cases hr : Region.ready .any ops listed with
      | nil => rfl
      | cons j rs =>
        exfalso
        have hj : j ∈ Region.ready .any ops listed := by rw [hr]; simp
        obtain ⟨dn, rest, l, tm, h, β, nm, s, hd⟩ := se
        obtain ⟨h1, h2, _⟩ := ready_spec hj s.size
        have : j ∈ order.filter fun i => !isL listed i := by simp [h2, pp.all j (by rw [← s.size]; exact h1)]
        have hz : (order.filter fun i => !isL listed i).length = 0 := by omega
        rw [List.length_eq_zero_iff.1 hz] at this
        cases this
    exact ⟨hr, sim_end pp se hr H⟩
  | fuel + 1, listed, a, w, se, hf => by
    refine ⟨fun hr => sim_end pp se hr H, fun j hj => ?_⟩
    refine wpOpIn_mono (fun a' w' se' => any_ok hrec pp H fuel _ a' w' se' ?_) (step_ok hrec pp se hj)
    obtain ⟨dn, rest, l, tm, h, β, nm, s, hd⟩ := se
    obtain ⟨h1, h2, _⟩ := ready_spec hj s.size
    have := filter_less (l := order) (p := fun i => !isL listed i) (p' := fun i => !isL (listed.setIfInBounds j true) i) (j := j) (fun x hx => by
      rw [set_isL h1] at hx
      split at hx
      · cases hx
      · exact hx) (pp.all j (by rw [← s.size]; exact h1)) (by simp [h2]) (by rw [set_isL h1]; simp)
    omega
end
theorem drawOk {C : Ctx} {rec : Rec} (hm : C.P.follows .mixedOrders = true) (hrec : RecOk C rec) : DrawOk C rec := by
  intro R out ops id β h w ro a tm k Q order B hp e r t H
  have pp := plan_ok hp
  refine wpIn_region_any hm ?_
  have hno : ∀ i, isL (Array.replicate ops.size false) i = false := fun i => by
    unfold isL
    by_cases hi : i < ops.size <;> simp [Array.getD_eq_getD_getElem?, hi]
  have hx : Ext β h w β h { w with drawn := w.drawn + 1 } := Ext.world rfl rfl rfl rfl
  refine any_ok (β0 := β) (h0 := h) (w0 := w) (a0 := a) (k := k) (out := out) hrec pp H ops.size _ a _ ?_ ?_
  · have hs : Sim C rec ops B order k out β h w a (Array.replicate ops.size false) [] order [] tm h β (fun _ => none) a { w with drawn := w.drawn + 1 } :=
      ⟨by simp, e, by simp, (fun i hi => by rw [hno] at hi; cases hi), (fun i hi => by cases hi), (fun i o _ hi => by rw [hno] at hi; cases hi), r.world rfl, hx, t.1, rfl, rfl, (fun t' _ => t.2 t'), (fun i hi => by cases hi), (fun i hi => by cases hi), (fun i j x hi => by cases hi)⟩
    exact sim_catch pp order [] [] tm h β (fun _ => none) hs
  · rw [← pp.len]
    exact List.length_filter_le _ _
end Go.Ai
