/-
  AN ABSTRACT MACHINE FOR PROOFS, PART 10. A general base for proofs: no program is named here.
-/
import Derived.Test.YtmnkjofaodbokaaJA9
namespace Go.Am
open Go Go.RowKit
structure NewL (w' : World) (B : Nat) (sz len : Nat) (cap : Option Nat) (cs : List AV) (u : Value) : Prop where
 ok : ∃ p c, ∃ lo : Loc, u = Value.slice p len c ∧ len ≤ c ∧ (0 < c → ∃ q, p = some q) ∧ (∀ k, cap = some k → c = k) ∧ (∀ b base n, lo = .at b base n → B ≤ b ∧ (c = 0 ∨ (p = some ⟨b, base + 0, none⟩ ∧ (cap = none → base + 0 + c * sz = n)))) ∧
  (lo = .void → c = 0 ∧ cs = []) ∧ (∀ b base n, lo = .at b base n → ∃ cc elem, w'.heap[b]? = some (.cells cc elem (0, 0)) ∧ cc.size = n ∧ base + cs.length ≤ n ∧ ∀ i x, cs[i]? = some x → VRel w' (fun _ => False) none x (cc.getD (base + i) undef))
def PFo (P : Program) (f : FuncId) (args : List AV) (sz len : Nat) (cap : Option Nat) (cs : List AV) : Prop :=
 Ent P f ∧ ∀ (ro : Nat → Prop) (w : World) (us : Array Value), GOk ro w → CRel w ro none args us → Calls P f us w fun e w' => ∃ u, e = .returned u ∧ Below w.heap.size w w' ∧ NewL w' w.heap.size sz len cap cs u
theorem PFo.pf {P : Program} {f : FuncId} {args : List AV} {len : Nat} {cap : Option Nat} {cs : List AV} (hl : cs.length = len) (h : PFo P f args 1 len cap cs) : PFn P f args (.vs (cs.map fun x => [x])) := by
 refine ⟨h.1, fun ro w us hg ha => (h.2 ro w us hg ha).mono fun e w' ⟨u, he, hb, hn⟩ => ⟨u, he, hb, ?_⟩⟩
 obtain ⟨p, c, lo, rfl, hlc, hp, hcap, hat, hvoid, hor⟩ := hn.ok
 subst hl
 have zero : c = 0 → VRel w' (fun b => w.heap.size ≤ b) none (.vs (cs.map fun x => [x])) (.slice p cs.length c) := fun hc => by
  subst hc
  have : cs = [] := List.length_eq_zero_iff.1 (by omega)
  subst this
  exact .nilvs
 cases lo with
 | void => exact zero (hvoid rfl).1
 | «at» b base n =>
  obtain ⟨h1, h2⟩ := hat b base n rfl
  rcases h2 with h0 | ⟨e1, _⟩
  ·exact zero h0
  ·subst e1
   obtain ⟨cc, elem, o1, o2, o3, o4⟩ := hor b base n rfl
   have hget : ∀ (i j : Nat) (e : List AV) (x : AV), (cs.map fun x => [x])[i]? = some e → e[j]? = some x → j = 0 ∧ cs[i]? = some x := by
    intro i j e x hi hj
    rw [List.getElem?_map, Option.map_eq_some_iff] at hi
    obtain ⟨y, hy, rfl⟩ := hi
    cases j with
    | zero => simp at hj; subst hj; exact ⟨rfl, hy⟩
    | succ j => simp at hj
   refine .vs (sz := 1) (b := b) (off := base + 0) (fun i j => cc.getD (base + i) undef) (by rw [List.length_map]) hlc (fun _ => rfl) (fun e he => by obtain ⟨x, _, rfl⟩ := List.mem_map.1 he; rfl) (fun i j e x hi hj => ?_) fun i j e x hi hj => ?_
   ·obtain ⟨rfl, hx⟩ := hget i j e x hi hj
    have hlt : i < cs.length := (List.getElem?_eq_some_iff.1 hx).1
    have hlt2 : base + i < cc.size := by omega
    refine ⟨h1, ?_⟩
    rw [show base + 0 + i * 1 + 0 = base + i from by omega]
    simp [World.cell?, o1, hlt2, Array.getD_eq_getD_getElem?]
   ·obtain ⟨rfl, hx⟩ := hget i j e x hi hj
    exact (o4 _ _ hx).mono (fun _ _ _ h _ => h.elim) trivial
section
variable {P : Program} {w0 : World} {N0 : Nat} {k : List Fr} {Q : Exit → AS → Prop} {ios : List Opr} {n nx ck : Nat} {mk : List (Nat × Nat)} {md : Md} {l : List (Nat × AV)} {hp : List (Nat × Nat × AObj)}
end
end Go.Am
namespace Go.Am
open Go Go.RowKit
def zju (pres : List (List Nat)) (n : Nat) (done : List Nat) : List Nat := (List.range n).filter fun i => !done.contains i && (pres.getD i []).all fun p => done.contains p
def AllL (p : Nat → Prop) : List Nat → Prop
 | [] => True
 | i :: l => p i ∧ AllL p l
def AnyF (P : Program) (w0 : World) (N0 : Nat) (rd : Option (Nat × Nat)) (ios : List Opr) (pres : List (List Nat)) : Nat → List Nat → AS → (AS → Prop) → Prop
 | 0, done, S, K => zju pres ios.length done = [] ∧ K S
 | n + 1, done, S, K => zju pres ios.length done ≠ [] ∧ AllL (fun i => ∀ io, ios[i]? = some io → zdc S.size io.dst = true ∧
   (
    (zb2 S io = some false ∧ AnyF P w0 N0 rd ios pres n (i :: done) (S.put io.dst (.tup [])) K) ∨
    (zb2 S io = some true ∧ ∃ Fk : AS → AV → Prop, Stp P w0 N0 rd io S Fk ∧ ∀ S1 v, Fk S1 v → zdc S1.size io.dst = true ∧ AnyF P w0 N0 rd ios pres n (i :: done) (S1.put io.dst v) K))) (zju pres ios.length done)
section
variable {P : Program} {w0 w : World} {N0 : Nat} {I : LI} {S S' S1 : AS} {a : Act} {rd : Option (Nat × Nat)} {Q : Exit → AS → Prop}
end
section
variable {P : Program} {w0 w : World} {N0 : Nat} {I : LI} {S S' S1 : AS} {a : Act} {rd : Option (Nat × Nat)} {Q : Exit → AS → Prop}
end
section
variable {P : Program} {w0 : World} {N0 : Nat} {rd : Option (Nat × Nat)} {ios : List Opr} {pres : List (List Nat)} {n nn nx nx' ck ck' i : Nat} {mk : List (Nat × Nat)} {done : List Nat} {K : AS → Prop} {l : List (Nat × AV)} {hp hp' : List (Nat × Nat × AObj)} {k : List Fr} {Q : Exit → AS → Prop} {md : Md}
abbrev StF (P : Program) (w0 : World) (N0 : Nat) (rd : Option (Nat × Nat)) (ios : List Opr) (pres : List (List Nat)) (n : Nat) (done : List Nat) (S : AS) (K : AS → Prop) (i : Nat) : Prop := ∀ io, ios[i]? = some io → zdc S.size io.dst = true ∧
   (
    (zb2 S io = some false ∧ AnyF P w0 N0 rd ios pres n (i :: done) (S.put io.dst (.tup [])) K) ∨
    (zb2 S io = some true ∧ ∃ Fk : AS → AV → Prop, Stp P w0 N0 rd io S Fk ∧ ∀ S1 v, Fk S1 v → zdc S1.size io.dst = true ∧ AnyF P w0 N0 rd ios pres n (i :: done) (S1.put io.dst v) K))
theorem AnyF.succ {S : AS} (h1 : zju pres ios.length done ≠ []) (h2 : AllL (StF P w0 N0 rd ios pres n done S K) (zju pres ios.length done)) : AnyF P w0 N0 rd ios pres (n + 1) done S K := ⟨h1, h2⟩
theorem AnyF.one {S : AS} (i : Nat) (h1 : zju pres ios.length done = [i]) (h2 : StF P w0 N0 rd ios pres n done S K i) : AnyF P w0 N0 rd ios pres (n + 1) done S K := ⟨by rw [h1]; simp, by rw [h1]; exact ⟨h2, trivial⟩⟩
theorem AnyF.fin {S : AS} (h1 : zju pres ios.length done = []) (h2 : K S) : AnyF P w0 N0 rd ios pres 0 done S K := ⟨h1, h2⟩
end
end Go.Am
namespace Go.Am
open Go Go.RowKit
open Classical in
section
variable {P : Program} {w0 w : World} {N0 : Nat} {S S' : AS} {K : AS → Prop} {E : Env}
end
section
variable {P : Program} {w0 : World} {N0 : Nat} {S : AS} {k : List Fr} {Q : Exit → AS → Prop} {ios : List Opr} {pres : List (List Nat)} {n nx ck : Nat} {mk : List (Nat × Nat)} {md : Md} {l : List (Nat × AV)} {hp : List (Nat × Nat × AObj)} {lk : FuncId → List AV → Option AV} {kn : FuncId → Bool} {rl : List (FuncId × List AV × HS × AV × HS)} {ld sd : Nat → Bool}
end
end Go.Am
namespace Go.Am
open Go
end Go.Am
