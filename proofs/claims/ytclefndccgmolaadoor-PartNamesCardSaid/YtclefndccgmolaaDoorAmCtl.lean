/-
  CODE OVER ABSTRACT STATES. A general base for proofs: no program is named here.
-/
import Derived.Test.YtclefndccgmolaaDoorAmOps14
namespace Go.Am
open Go Go.RowKit

/-- The fence that keeps nothing out, in a round or not. -/
def Wd (r : Option Nat) : Fence := { Fence.wide with round := r }

theorem Wd_fn (r : Option Nat) (f : FuncId) : (Wd r).fn f := trivial
theorem Wd_depth (r : Option Nat) : (Wd r).depth = none := rfl
theorem Wd_room (r : Option Nat) (n : Nat) : (Wd r).room n := fun _ h => by cases h

theorem callsIn_wd {r : Option Nat} {n : Nat} {P : Program} {f : FuncId} {args : Array Value} {w : World} {R : Ending → World → Prop} (h : Calls P f args w R) : CallsIn (Wd r) n P f args w R :=
  callsIn_wide.2 h

theorem calls_of_wd {r : Option Nat} {n : Nat} {P : Program} {f : FuncId} {args : Array Value} {w : World} {R : Ending → World → Prop} (h : CallsIn (Wd r) n P f args w R) : Calls P f args w R :=
  callsIn_wide.1 (show CallsIn Fence.wide n P f args w R from h)

/-- The round in which code runs: its record, while it lives. -/
def RdOk (I : LI) : Option (Nat × Nat) → Option Nat → Prop
  | none, none => True
  | some (id, st), some r => st < I.clk ∧ ∀ l, I.loc id st = some l → ∃ base n, l = .at r base n
  | _, _ => False

theorem RdOk.evo {I I' : LI} {w w' : World} {rd : Option (Nat × Nat)} {r : Option Nat} (h : RdOk I rd r) (e : Evo I w I' w') : RdOk I' rd r := by
  cases rd with
  | none => cases r <;> exact h
  | some x =>
    cases r with
    | none => exact h
    | some r => exact ⟨Nat.lt_of_lt_of_le h.1 e.clk, fun l hl => h.2 l (e.loc _ _ _ h.1 hl)⟩

/-- Code and what it reads as. -/
inductive Com (P : Program) : Code → IC → Prop
  | skip : Com P .skip .skip
  | label {l} : Com P (.label l) .skip
  | region {id ops draw ios pr} (h : ops.toList.mapM (comIO P ops) = some ios) (hp : pr = if draw then some (presOf ops) else none) : Com P (.region id ops draw) (.region ios pr)
  | seq {a b x y} (h1 : Com P a x) (h2 : Com P b y) : Com P (.seq a b) (.seq x y)
  | cond {c a b d x y} (h0 : comOperand c = some d) (h1 : Com P a x) (h2 : Com P b y) : Com P (.cond c a b) (.cond d x y)
  | block {id b x} (h : Com P b x) : Com P (.block id b) (.block id x)
  | loop {b x} (h : Com P b x) : Com P (.loop b) (.loop x)
  | rangeFunc {f ps a b d x y} (h0 : comOperand f = some d) (h1 : Com P a x) (h2 : Com P b y) : Com P (.rangeFunc f ps a b) (.rangeFunc d ps.toList a b x y)
  | exit {id} : Com P (.exit id) (.exit id)
  | ret : Com P .ret .ret

theorem com_of {P : Program} : ∀ {code : Code} {ic : IC}, comC P code = some ic → Com P code ic := by
  intro code
  induction code with
  | skip => intro ic h; simp only [comC, Option.some.injEq] at h; subst h; exact .skip
  | label l => intro ic h; simp only [comC, Option.some.injEq] at h; subst h; exact .label
  | region id ops draw =>
    intro ic h
    simp only [comC, Option.map_eq_some_iff] at h
    obtain ⟨ios, h1, rfl⟩ := h
    exact .region h1 rfl
  | seq a b iha ihb =>
    intro ic h
    simp only [comC] at h
    split at h
    · rename_i x y hx hy
      simp only [Option.some.injEq] at h; subst h
      exact .seq (iha hx) (ihb hy)
    · cases h
  | cond c a b iha ihb =>
    intro ic h
    simp only [comC] at h
    split at h
    · rename_i d x y hd hx hy
      simp only [Option.some.injEq] at h; subst h
      exact .cond hd (iha hx) (ihb hy)
    · cases h
  | block id b ih =>
    intro ic h
    simp only [comC, Option.map_eq_some_iff] at h
    obtain ⟨x, h1, rfl⟩ := h
    exact .block (ih h1)
  | loop b ih =>
    intro ic h
    simp only [comC, Option.map_eq_some_iff] at h
    obtain ⟨x, h1, rfl⟩ := h
    exact .loop (ih h1)
  | rangeFunc f ps a b iha ihb =>
    intro ic h
    simp only [comC] at h
    split at h
    · rename_i d x y hd hx hy
      simp only [Option.some.injEq] at h; subst h
      exact .rangeFunc hd (iha hx) (ihb hy)
    · cases h
  | exit id => intro ic h; simp only [comC, Option.some.injEq] at h; subst h; exact .exit
  | scope b => intro ic h; simp [comC] at h
  | goto l => intro ic h; simp [comC] at h
  | ret => intro ic h; simp only [comC, Option.some.injEq] at h; subst h; exact .ret
  | refuse w => intro ic h; simp [comC] at h

def Post (w0 : World) (N0 : Nat) (I : LI) (w : World) (Q : Exit → AS → Prop) (e : Exit) (a' : Act) (w' : World) : Prop := ∃ I' S', Q e S' ∧ Rel w0 N0 I' S' a' w' ∧ Evo I w I' w'

def T (P : Program) (w0 : World) (N0 : Nat) (rd : Option (Nat × Nat)) (ic : IC) (S : AS) (Q : Exit → AS → Prop) : Prop :=
  ∀ code, Com P code ic → ∀ n I a w r, Rel w0 N0 I S a w → RdOk I rd r → code.wpIn (Wd r) n P (Post w0 N0 I w Q) a w

def Sub (w0 : World) (N0 : Nat) (S S' : AS) : Prop := ∀ I a w, Rel w0 N0 I S a w → ∃ I', Rel w0 N0 I' S' a w ∧ Evo I w I' w

section
variable {P : Program} {w0 : World} {N0 : Nat} {rd : Option (Nat × Nat)} {S S' : AS} {Q Q' : Exit → AS → Prop}

theorem Sub.refl : Sub w0 N0 S S := fun I _ w h => ⟨I, h, Evo.refl I w⟩

theorem T_mono {ic : IC} (h : T P w0 N0 rd ic S Q) (hq : ∀ e S', Q e S' → Q' e S') : T P w0 N0 rd ic S Q' := fun code hc n I a w r hr ho =>
  wpIn_mono (h code hc n I a w r hr ho) fun _ _ _ ⟨I', S', q, x⟩ => ⟨I', S', hq _ _ q, x⟩

theorem T_sub {ic : IC} (hs : Sub w0 N0 S S') (h : T P w0 N0 rd ic S' Q) : T P w0 N0 rd ic S Q := fun code hc n I a w r hr ho => by
  obtain ⟨I', h1, h2⟩ := hs I a w hr
  exact wpIn_mono (h code hc n I' a w r h1 (ho.evo h2)) fun _ _ _ ⟨I'', S'', q, x, y⟩ => ⟨I'', S'', q, x, h2.trans y⟩

theorem T_skip (h : Q .normal S) : T P w0 N0 rd .skip S Q := fun code hc n I a w r hr _ => by
  cases hc
  · exact wpIn_skip ⟨I, S, h, hr, Evo.refl I w⟩
  · exact wpIn_label ⟨I, S, h, hr, Evo.refl I w⟩

theorem T_exit {id : Nat} (h : Q (.exit id) S) : T P w0 N0 rd (.exit id) S Q := fun code hc n I a w r hr _ => by
  cases hc
  exact wpIn_exit ⟨I, S, h, hr, Evo.refl I w⟩

theorem T_ret (h : Q .ret S) : T P w0 N0 rd .ret S Q := fun code hc n I a w r hr _ => by
  cases hc
  exact wpIn_ret ⟨I, S, h, hr, Evo.refl I w⟩

/-- What is asked behind the first of two pieces. -/
def QSeq (P : Program) (w0 : World) (N0 : Nat) (rd : Option (Nat × Nat)) (y : IC) (Q : Exit → AS → Prop) : Exit → AS → Prop
  | .normal, S => T P w0 N0 rd y S Q
  | e, S => Q e S

theorem T_seq {x y : IC} (h : T P w0 N0 rd x S (QSeq P w0 N0 rd y Q)) : T P w0 N0 rd (.seq x y) S Q := fun code hc n I a w r hr ho => by
  cases hc with
  | seq h1 h2 =>
    refine wpIn_seq (wpIn_mono (h _ h1 n I a w r hr ho) fun e a' w' ⟨I', S', q, x, y⟩ => ?_)
    cases e with
    | normal => exact wpIn_mono (q _ h2 n I' a' w' r x (ho.evo y)) fun _ _ _ ⟨I'', S'', q', x', y'⟩ => ⟨I'', S'', q', x', y.trans y'⟩
    | exit id => exact ⟨I', S', q, x, y⟩
    | goto l => exact ⟨I', S', q, x, y⟩
    | ret => exact ⟨I', S', q, x, y⟩
    | panic c => exact ⟨I', S', q, x, y⟩
    | outgrown => exact ⟨I', S', q, x, y⟩

theorem T_cond {c : Arg} {x y : IC} {t : Bool} (hc : S.arg c = some (.bool t)) (h : T P w0 N0 rd (if t then x else y) S Q) : T P w0 N0 rd (.cond c x y) S Q := fun code hcom n I a w r hr ho => by
  cases hcom with
  | @cond c' a' b' _ _ _ h0 h1 h2 =>
    have hv := hr.arg h0 hc
    generalize he : a.eval c' = u at hv
    cases hv
    refine wpIn_cond he ?_
    cases t
    · exact h _ h2 n I a w r hr ho
    · exact h _ h1 n I a w r hr ho

/-- What is asked of a block's body. -/
def QBlock (id : Nat) (Q : Exit → AS → Prop) : Exit → AS → Prop
  | .exit i, S => if i = id then Q .normal S else Q (.exit i) S
  | e, S => Q e S

theorem T_block {id : Nat} {x : IC} (h : T P w0 N0 rd x S (QBlock id Q)) : T P w0 N0 rd (.block id x) S Q := fun code hcom n I a w r hr ho => by
  cases hcom with
  | block h1 =>
    refine wpIn_block (wpIn_mono (h _ h1 n I a w r hr ho) fun e a' w' ⟨I', S', q, x, y⟩ => ?_)
    cases e with
    | exit i =>
      simp only [QBlock] at q
      simp only [Exit.inBlock]
      split
      · rename_i hi; rw [if_pos hi] at q; exact ⟨I', S', q, x, y⟩
      · rename_i hi; rw [if_neg hi] at q; exact ⟨I', S', q, x, y⟩
    | normal => exact ⟨I', S', q, x, y⟩
    | goto l => exact ⟨I', S', q, x, y⟩
    | ret => exact ⟨I', S', q, x, y⟩
    | panic c => exact ⟨I', S', q, x, y⟩
    | outgrown => exact ⟨I', S', q, x, y⟩

/-- What is asked of a loop's round: back at the head with a smaller number, or out. -/
def QLoop (w0 : World) (N0 : Nat) (J : Nat → AS → Prop) (m : Nat) (Q : Exit → AS → Prop) : Exit → AS → Prop
  | .normal, S => ∃ m' S', m' < m ∧ Sub w0 N0 S S' ∧ J m' S'
  | e, S => Q e S

theorem T_loop {x : IC} (J : Nat → AS → Prop) {m : Nat} (h0 : J m S) (hround : ∀ m S, J m S → T P w0 N0 rd x S (QLoop w0 N0 J m Q)) : T P w0 N0 rd (.loop x) S Q := fun code hcom n I a w r hr ho => by
  cases hcom with
  | @loop c _ h1 =>
    intro b k cs hro hb hroom
    have key : ∀ m S I₁ a₁ w₁, J m S → Rel w0 N0 I₁ S a₁ w₁ → Evo I w I₁ w₁ →
        ∃ e a' w', Post w0 N0 I w Q e a' w' ∧ ArrivesIn (Machine.fenced P (Wd r)) P (lone (b.atR a₁ (.code c :: .inLoop c :: k)) cs w₁) b k cs e a' w' := by
      intro m
      induction m using Nat.strongRecOn with
      | _ m ih =>
        intro S I₁ a₁ w₁ hJ hr₁ hE
        obtain ⟨e, a₂, w₂, ⟨I₂, S₂, q, x, y⟩, harr⟩ := hround m S hJ c h1 n I₁ a₁ w₁ r hr₁ (ho.evo hE) b (.inLoop c :: k) cs hro hb hroom
        have y := hE.trans y
        cases e with
        | normal =>
          obtain ⟨m', S', hlt, hs, hJ'⟩ := q
          obtain ⟨I₃, x3, y3⟩ := hs _ _ _ x
          obtain ⟨e, a₃, w₃, hq, harr'⟩ := ih m' hlt S' I₃ a₂ w₂ hJ' x3 (y.trans y3)
          exact ⟨e, a₃, w₃, hq, .of_steps (StepsIn.trans harr (.one (fenced_calm (fr := b.atR a₂ (.inLoop c :: k)) hb hroom rfl) stepR_inLoop)) harr'⟩
        | exit id => exact ⟨_, a₂, w₂, ⟨I₂, S₂, q, x, y⟩, .pass (x := .inLoop c) rfl (fun _ _ => .inl (by simp)) harr⟩
        | goto l => exact ⟨_, a₂, w₂, ⟨I₂, S₂, q, x, y⟩, .pass (x := .inLoop c) rfl (fun _ _ => .inl (by simp)) harr⟩
        | ret => exact ⟨_, a₂, w₂, ⟨I₂, S₂, q, x, y⟩, .pass (x := .inLoop c) rfl (fun _ _ => .inl (by simp)) harr⟩
        | panic ch => exact ⟨_, a₂, w₂, ⟨I₂, S₂, q, x, y⟩, .pass (x := .inLoop c) rfl (fun _ _ => .inl (by simp)) harr⟩
        | outgrown => exact ⟨_, a₂, w₂, ⟨I₂, S₂, q, x, y⟩, .pass (x := .inLoop c) rfl (fun _ _ => .inl (by simp)) harr⟩
    obtain ⟨e, a', w', hq, harr⟩ := key m S I a w h0 hr (Evo.refl I w)
    exact ⟨e, a', w', hq, .of_steps (.one (fenced_calm hb hroom rfl) stepR_loop) harr⟩

end
end Go.Am
