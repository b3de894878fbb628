/-
  CYCLES: plain law; a list behind a literal; Cycle walked.
-/
import Derived.Test.YtoagikifehmlpaaQK4
import Derived.Test.YtoagikifehmlpaaQG2
import Derived.Test.YtoagikifehmlpaaQJ6
import Derived.Test.YtoagikifehmlpaaQJ2
import Derived.Test.YtoagikifehmlpaaQJ3
import Derived.Test.YtoagikifehmlpaaQJ8
namespace Go.Proofs.Ytoagikifehmlpaa
open Go Go.Am
def lstF (back : List Int) (b : Int) (w : Nat) : Int := if gI back w ≥ 0 ∧ (b < 0 ∨ gI back w < gI back b.toNat) then (w : Nat) else b
def zgt (back : List Int) (l : List Nat) : Int := l.foldl (lstF back) (-1)
structure LsW (back : List Int) (l : List Nat) (b : Int) : Prop where
 none_ : b < 0 → b = -1 ∧ ∀ w ∈ l, gI back w < 0
 some_ : 0 ≤ b → b.toNat ∈ l ∧ 0 ≤ gI back b.toNat
theorem lsW (back : List Int) : ∀ l : List Nat, LsW back l (zgt back l) := by
 intro l
 induction l using zfw with
 | h0 => exact ⟨fun _ => ⟨rfl, fun w h => absurd h List.not_mem_nil⟩, fun h => absurd h (by show ¬ (0 : Int) ≤ -1; decide)⟩
 | h1 l w ih =>
  unfold zgt at ih ⊢
  rw [List.foldl_append, List.foldl_cons, List.foldl_nil]
  generalize l.foldl (lstF back) (-1) = b at *
  unfold lstF
  by_cases c : gI back w ≥ 0 ∧ (b < 0 ∨ gI back w < gI back b.toNat)
  ·rw [if_pos c]
   refine ⟨fun h => by omega, fun _ => ?_⟩
   rw [Int.toNat_natCast]
   exact ⟨by simp, c.1⟩
  ·rw [if_neg c]
   refine ⟨fun h => ?_, fun h => ?_⟩
   ·obtain ⟨a, d⟩ := ih.none_ h
    refine ⟨a, fun x hx => ?_⟩
    rcases List.mem_append.1 hx with hx | hx
    ·exact d x hx
    ·obtain rfl := List.mem_singleton.1 hx
     refine Int.not_le.1 fun h2 => c ⟨h2, .inl h⟩
   ·obtain ⟨a, d⟩ := ih.some_ h
    exact ⟨List.mem_append_left _ a, d⟩
theorem ls_ld {E : List (Nat × Nat)} {m v : Nat} (hb : ∀ u v, (u, v) ∈ E → u < m ∧ v < m) (hv : v < m) : zgt (zcx (rvE E) m v m) (nbr E m v) < 0 ↔ ldB E m v v = false := by
 have h := lsW (zcx (rvE E) m v m) (nbr E m v)
 have hmem : ∀ w, w ∈ nbr E m v ↔ (v, w) ∈ E := fun w => zc9 fun u v h => (hb u v h).2
 constructor
 ·intro h0
  cases hc : ldB E m v v with
  | false => rfl
  | true =>
   unfold ldB at hc
   obtain ⟨e, he, h2⟩ := List.any_eq_true.1 hc
   rw [Bool.and_eq_true, beq_iff_eq, decide_eq_true_eq] at h2
   have he : (e.1, e.2) ∈ E := he
   rw [h2.1] at he
   have := (h.none_ h0).2 e.2 ((hmem _).2 he)
   rw [zmi hb hv (hb _ _ he).2] at this
   omega
 ·intro h0
  refine Int.not_le.1 fun h1 => ?_
  obtain ⟨a, d⟩ := h.some_ h1
  have he := (hmem _).1 a
  rw [zmi hb hv (hb _ _ he).2] at d
  have : ldB E m v v = true := by
   unfold ldB
   rw [List.any_eq_true]
   exact ⟨(v, (zgt (zcx (rvE E) m v m) (nbr E m v)).toNat), he, by rw [Bool.and_eq_true, beq_iff_eq, decide_eq_true_eq]; exact ⟨rfl, d⟩⟩
  rw [this] at h0
  cases h0
def cycL (E : List (Nat × Nat)) (m v : Nat) : List Nat :=
 let back := zcx (rvE E) m v m
 let x := (zgt back (nbr E m v)).toNat
 v :: (x :: zcm E m back (gI back x).toNat x).take (gI back x).toNat
def cycN (m : Nat) (E : List (Nat × Nat)) : AV := match lpS E m with
 | some v => .tup [vsI (iL (cycL E m v)), .int .i64 0]
 | none => .tup [.vs [], .int .i64 6]
def cycV (n : Int) (es : List (Int × Int)) : AV := if zdx n es = 0 then cycN n.toNat (es.map fun e => (e.1.toNat, e.2.toNat)) else .tup [.vs [], .int .i64 (zdx n es)]
theorem zrc {m : Nat} {E : List (Nat × Nat)} (h : zdx m (zal E) = 0) : cycV m (zal E) = cycN m E := by
 unfold cycV
 rw [if_pos h, zdp]
 rfl
theorem cycV_err {n : Int} {es : List (Int × Int)} (h : zdx n es ≠ 0) : cycV n es = .tup [.vs [], .int .i64 (zdx n es)] := if_neg h
section
variable {w0 : World} {N0 n d nx ck : Nat} {k : List Fr} {Q : Exit → AS → Prop} {hp : List (Nat × Nat × AObj)} {l : List (Nat × AV)} {ios : List Opr}
theorem zrp : ∀ q : List Int, q.map (AV.int .i64) = (q.map fun z => ([.int .i64 z] : List AV)).flatten
 | [] => rfl
 | y :: q => by rw [List.map_cons, List.map_cons, List.flatten_cons, zrp q]; rfl
theorem o_slvs {pf : Kn} {sz : Nat} {ax : Arg} {es : List (List AV)} {ah : Arg} {kd : IntKind} {h : Nat} (hx : zb3 ax l = some (.vs es)) (h3 : zb3 ah l = some (.int kd (h : Nat))) (hb : h ≤ es.length) (hs : es.all (·.length == sz) = true)
  (go : Om Try.prog w0 N0 none pf ios (st n ((d, .vs (es.take h)) :: l) hp nx ck) k Q) : Om Try.prog w0 N0 none pf (⟨some d, .slsl sz ax none (some ah) none, none⟩ :: ios) (st n l hp nx ck) k Q := by
 have e2 : zne sz (.vs es) none (some (.int kd (h : Nat))) none = some (.vs (es.take h)) := by
  show (if 0 ≤ (0 : Int) ∧ (0 : Int) ≤ ((h : Nat) : Int) ∧ ((h : Nat) : Int) ≤ es.length ∧ es.all (·.length == sz) = true then some (AV.vs ((es.drop (0 : Int).toNat).take (((h : Nat) : Int).toNat - (0 : Int).toNat))) else none) = _
  rw [if_pos ⟨Int.le_refl 0, Int.natCast_nonneg h, by omega, hs⟩]
  simp
 have h3' : zps (some ah) l = some (some (.int kd (h : Nat))) := by simp only [zps, h3]
 have hi : iop (st n l hp nx ck) (.slsl sz ax none (some ah) none) = some (.vs (es.take h), st n l hp nx ck) := by
  have e3 : (st n l hp nx ck []).oarg (some ah) = some (some (.int kd (h : Nat))) := (zn2 (some ah)).trans h3'
  have e5 : (st n l hp nx ck []).oarg none = some none := rfl
  simp only [iop, zam, hx, e3, e5, e2]
  rfl
 exact ze9 hi go trivial
theorem o_alit {bytes id sp a : Nat} {z : List AV} {s x : Arg} {q : List Int} (hq : q.length ≤ 1000000) (hs : zb3 s l = some (.ms id sp 1 0 1 (some 1))) (hl : Am.look id hp = some (sp, .cells [.int .i64 (a : Nat)])) (hn : id < nx) (hx : zb3 x l = some (vsI q)) (hb : bytes ≤ 16777216)
  (go : ∀ w hp' nx' ck', Wq hp' nx' ((a : Nat) :: q) w → Om Try.prog w0 N0 none (KnP Try.prog w0 N0) ios (st n ((d, w) :: l) hp' nx' ck') k Q) : Om Try.prog w0 N0 none (KnP Try.prog w0 N0) (⟨some d, .append 1 bytes z s x, none⟩ :: ios) (st n l hp nx ck) k Q := by
 have hel : ∀ l, (st n l hp nx ck []).elems 1 (vsI q) = some (q.map fun z => [.int .i64 z]) := fun l => elems_vs fun x hx => by obtain ⟨s, _, rfl⟩ := List.mem_map.1 hx; rfl
 cases q with
 | nil =>
  have hi : iop (st n l hp nx ck) (.append 1 bytes z s x) = some (.ms id sp 1 0 1 (some 1), st n l hp nx ck) := by
   simp only [iop, zam, hs, hx, hel]
   rfl
  exact ze9 hi (go _ _ _ _ (.lit _ rfl hl hn)) (fun _ _ _ _ _ _ _ => rfl)
 | cons y q =>
  have hfl := zrp (y :: q)
  have hi : iop (st n l hp nx ck) (.append 1 bytes z s x) = some (.ms nx ck 1 0 (1 + (y :: q).length) none, st n l ((nx, ck, .cells ((((a : Nat) : Int) :: y :: q).map (AV.int .i64))) :: hp) (nx + 1) (ck + 1)) := by
   simp only [iop, zam, hs, hx, hel]
   unfold zb7
   rw [if_neg (by rw [List.length_map, List.length_cons]; omega), if_pos ⟨by rw [← hfl]; exact List.all_eq_true.2 fun x hx => by obtain ⟨s, _, rfl⟩ := List.mem_map.1 hx; rfl, hb⟩]
   simp only [show (st n l hp nx ck []).heap = hp from rfl, hl]
   rw [if_pos ⟨trivial, trivial, Nat.le_refl 1, by rw [List.length_map]; omega⟩, if_neg (by rw [List.length_map, List.length_cons]; omega), List.length_map, ← hfl]
   rfl
  exact ze9 hi (go _ _ _ _ (.gen (Nat.add_comm 1 _) zb5 (Nat.lt_succ_self _))) (fun _ _ _ _ _ _ _ => rfl)
end
end Go.Proofs.Ytoagikifehmlpaa
