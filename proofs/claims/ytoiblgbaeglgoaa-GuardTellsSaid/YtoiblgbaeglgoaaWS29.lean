/-
  THE LAW OF WHAT IS TOLD.
-/
import Derived.Test.YtoiblgbaeglgoaaWS28
import Derived.Test.YtoiblgbaeglgoaaWS18
namespace Go.Proofs.Ytoiblgbaeglgoaa
open Go Go.Am
section
variable {w0 : World} {N0 : Nat} {k : List Fr} {Q : Exit → AS → Prop}
theorem join5 (f w : List Ex) (n : Int) {y : IC} (fin : Zm Try.prog w0 N0 none y (st 138 [(1, .int .i64 n), (3, .vptr [.vs (cXs f)]), (6, .bool false), (7, .vptr [.vs (cXs w)])] [] 0 1) k Q) (id7 s7 id s : Nat) (l' : List (Nat × AV)) (hp : List (Nat × Nat × AObj)) (nx ck len : Nat) (cs : List AV)
  (g1 : zbx 1 l' = some (.int .i64 n)) (g3 : zbx 3 l' = some (.vptr [.vs (cXs f)])) (g6 : zbx 6 l' = some (.bool false)) (g7 : zbx 7 l' = some (.mptr id7 s7 0)) (k7 : Am.look id7 hp = some (s7, .cells [.ms id s 3 0 len none])) (kl : Am.look id hp = some (s, .cells cs)) (hne : id7 ≠ id) (hlen : w.length = len) (hcs : cs = (cXs w).flatten) :
  Um Try.prog w0 N0 none .normal (st 138 l' hp nx ck) (.seq y :: k) Q := by
 subst hlen hcs
 refine za2 (zes [(some (id7, s7), [.vs (cXs w)])] [(id, s, (cXs w).flatten)] [(1, .int .i64 n), (3, .vptr [.vs (cXs f)]), (6, .bool false), (7, .mptr 0 0 0)] ?_ (.cons kl (cXs_hasM w) .nil) (.cons k7 (.cons (.fms0 (by simp [fzl]) (zaj w) (zl5 w) rfl) .nil) .nil) (.cons g1 (.same rfl) (.cons g3 (.same rfl) (.cons g6 (.same rfl) (.cons g7 (.mptr rfl) .nil)))) (zes [] [(0, 0, [.vs (cXs w)])] [(1, .int .i64 n), (3, .vptr [.vs (cXs f)]), (6, .bool false), (7, .vptr [.vs (cXs w)])] rfl (.cons rfl rfl .nil) .nil (.cons rfl (.same rfl) (.cons rfl (.same rfl) (.cons rfl (.same rfl) (.cons rfl (.fptr rfl rfl) .nil)))) fin))
 have hb : Nat.beq id id7 = false := by
  cases h : Nat.beq id id7 with
  | false => rfl
  | true => exact absurd (Nat.eq_of_beq_eq_true h).symm hne
 simp [okW, memN, hb]
theorem wideF (n : Int) (f : List Ex) (hf : f.length ≤ 600) (op ix : Int) (args : List Ex) (K : AS → Prop)
  (fin : ∀ id7 s7 id s l' hp nx ck, zbx 1 l' = some (.int .i64 n) → zbx 3 l' = some (.vptr [.vs (cXs f)]) → zbx 6 l' = some (.bool false) → zbx 7 l' = some (.mptr id7 s7 0) → Am.look id7 hp = some (s7, .cells [.ms id s 3 0 (f.length + 1) none]) → Am.look id hp = some (s, .cells ((cXs f).flatten ++ cX (.nd op ix args))) → id7 ≠ id → K (st 138 l' hp nx ck)) (rd : Option (Nat × Nat)) :
  AnyF Try.prog w0 N0 rd r5 p5 9 [] (st 138 [(1, .int .i64 n), (3, .vptr [.vs (cXs f)]), (5, .vptr (cX (.nd op ix args))), (6, .bool false)] [] 0 1) K := by
 cases f with
 | nil => exact wide5e n op ix args K fin rd
 | cons y f => exact wide5 n y f (by rw [List.length_cons] at hf; omega) op ix args K fin rd
end
set_option maxHeartbeats 8000000 in
theorem law5 (f : List Ex) (hlen : f.length < 9223372036854775808) (hsl : ∀ y ∈ f, Slim y) (n : Int) (x : Ex) (hx : Slim x) : PF Try.prog 5 [.agg [.vs (cXs f)], .int .i64 n, .agg (cX x)] (.bool true) := by
 have q1 := zv3 f hlen hsl n
 have hslx : ∀ y ∈ [x], Slim y := fun y hy => by obtain rfl := List.mem_singleton.1 hy; exact hx
 have q2 := zv3 [x] (by show 1 < _; decide) hslx n
 have haw := awake17
 obtain ⟨op, ix, args⟩ := x
 refine zb1 env0_ok fn5 [(0, .agg [.vs (cXs f)]), (1, .int .i64 n), (2, .agg (cX (.nd op ix args)))] (by show 3 ≤ 138; decide) rfl fun w0 N0 => ?_
 unfold ic5
 repeat (first | refine za5 ?_ | refine za0 rfl ?_ | refine za4 ?_ | refine za2 ?_ | refine za3 rfl ?_ | refine zaw rfl rfl rfl rfl ?_ | refine zcq rfl rfl ?_)
 refine zas rfl rfl q1 (fun h => Bool.noConfusion (show false = true from h)) ?_
 cases h1 : zg0 f n with
 | false =>
  repeat (first | refine za5 ?_ | refine za0 rfl ?_ | refine za4 ?_ | refine za2 ?_ | refine zb6 rfl ?_ | refine zdv rfl rfl ?_ | refine za3 rfl ?_ | refine zai rfl rfl ?_ | refine zi1 rfl rfl ?_)
  refine zas rfl rfl haw (fun h => Bool.noConfusion (show false = true from h)) ?_
  repeat (first | refine za4 ?_ | refine za2 ?_ | refine zaf ?_ | refine za6 ?_ | refine za3 rfl ?_)
  exact zad ⟨.inr rfl, _, rfl, rfl⟩
 | true =>
  repeat (first | refine zc8 rfl ?_ | refine za3 rfl ?_ | refine zaw rfl rfl rfl rfl ?_ | refine zi1 rfl rfl ?_)
  try refine zc8 rfl ?_
  refine o_fsl [cX (.nd op ix args)] rfl rfl rfl rfl ?_
  repeat (first | refine zc8 rfl ?_ | refine za3 rfl ?_ | refine zhk rfl rfl ?_)
  try refine zc8 rfl ?_
  refine zas rfl rfl q2 (fun h => Bool.noConfusion (show false = true from h)) ?_
  cases h2 : zg0 [Ex.nd op ix args] n with
  | false =>
   repeat (first | refine za5 ?_ | refine za0 rfl ?_ | refine za4 ?_ | refine za2 ?_ | refine zb6 rfl ?_ | refine zc8 rfl ?_ | refine zac rfl rfl ?_ | refine zi1 rfl rfl ?_)
   refine zas rfl rfl haw (fun h => Bool.noConfusion (show false = true from h)) ?_
   repeat (first | refine za4 ?_ | refine za2 ?_ | refine zaf ?_ | refine za6 ?_ | refine za3 rfl ?_)
   exact zad ⟨.inr rfl, _, rfl, rfl⟩
  | true =>
   unfold zg0 at h1 h2
   obtain ⟨r1, r2, r3, r4, hg⟩ := of_decide_eq_true h1
   obtain ⟨_, _, _, _, hg2⟩ := of_decide_eq_true h2
   obtain ⟨m, rfl⟩ : ∃ m : Nat, n = (m : Int) := ⟨n.toNat, by omega⟩
   have hslw : ∀ y ∈ f ++ [Ex.nd op ix args], Slim y := fun y hy => by
    rcases List.mem_append.1 hy with hy | hy
    ·exact hsl y hy
    ·exact hslx y hy
   have hgw := zol hg hg2 r3
   have p1 := zqo f hsl m (fun _ => r2)
   have p2 := zqo (f ++ [Ex.nd op ix args]) hslw m (fun _ => r2)
   rw [zm6, if_pos hg, Int.toNat_natCast] at p1
   rw [zm6, if_pos hgw, Int.toNat_natCast] at p2
   have p3 := sorted31 (zb3 f m) (zd6 (by omega)).1 (zd6 (by omega)).2 (zjx (by omega) (by omega))
   have t : Tell f (f ++ [Ex.nd op ix args]) m := ⟨by omega, by omega, hsl, hslw, hg, hgw, fun q h => zs2 h⟩
   have hwl : (f ++ [Ex.nd op ix args]).length = f.length + 1 := by rw [List.length_append]; rfl
   have hwc : (cXs f).flatten ++ cX (.nd op ix args) = (cXs (f ++ [Ex.nd op ix args])).flatten := by
    rw [cXs_app, List.flatten_append]
    show _ = _ ++ (cX _ ++ [])
    rw [List.append_nil]
   clear q1 q2 h1 h2
   generalize f ++ [Ex.nd op ix args] = w at *
   repeat (first | refine za5 ?_ | refine za4 ?_ | refine za2 ?_ | refine zab ?_ | refine zbi rfl ?_ | refine zc8 rfl ?_ | refine zac rfl rfl ?_ | refine zi1 rfl rfl ?_)
   refine zes [] [(0, 0, [.vs (cXs f)]), (1, 1, cX (.nd op ix args))] [(1, .int .i64 (m : Nat)), (3, .vptr [.vs (cXs f)]), (5, .vptr (cX (.nd op ix args))), (6, .bool false)] rfl (.cons rfl rfl (.cons rfl rfl .nil)) .nil (.cons rfl (.same rfl) (.cons rfl (.fptr rfl rfl) (.cons rfl (.fptr rfl rfl) (.cons rfl (.same rfl) .nil)))) ?_
   refine z_any env0_ok.mix fun rd => wideF m f (by omega) op ix args _ (fun id7 s7 id s l' hp nx ck g1 g3 g6 g7 k7 kl hne => ?_) rd
   refine (join5 (w0 := w0) (N0 := N0) f w (m : Nat) ?_ id7 s7 id s l' hp nx ck (f.length + 1) _ g1 g3 g6 g7 k7 kl hne hwl hwc).ok
   clear g1 g3 g6 g7 k7 kl hne
   repeat (first | refine za5 ?_ | refine za0 rfl ?_ | refine za3 rfl ?_ | refine zaw rfl rfl rfl rfl ?_)
   refine zas rfl rfl p1 (fun h => Bool.noConfusion (show false = true from h)) ?_
   repeat (first | refine za5 ?_ | refine za0 rfl ?_ | refine za4 ?_ | refine za2 ?_ | refine za3 rfl ?_ | refine zaw rfl rfl rfl rfl ?_ | refine zbg rfl rfl ?_)
   refine zas rfl rfl p2 (fun h => Bool.noConfusion (show false = true from h)) ?_
   repeat (first | refine za5 ?_ | refine za0 rfl ?_ | refine za4 ?_ | refine za2 ?_ | refine zab ?_ | refine zbi rfl ?_ | refine za3 rfl ?_ | refine zbg rfl rfl ?_ | refine zao (op := .add) rfl rfl rfl ?_ | refine zbt rfl rfl rfl ?_)
   refine zao (op := .shl) rfl rfl (shl5 (by omega) (by omega)) ?_
   repeat (first | refine za4 ?_ | refine za2 ?_ | refine zae ?_ | refine za3 rfl ?_)
   refine zk0 (zam (.cons rfl (.cons rfl (.cons rfl (.cons rfl (.cons rfl (.cons rfl (.cons rfl (.cons rfl .nil))))))))) (tells5 t ?_)
   repeat (first | refine za5 ?_ | refine za0 rfl ?_ | refine za3 rfl ?_)
   refine zas rfl rfl p3 (fun h => Bool.noConfusion (show false = true from h)) ?_
   repeat (first | refine zc8 rfl ?_ | refine za3 rfl ?_)
   try refine zc8 rfl ?_
   refine zas rfl rfl haw (fun h => Bool.noConfusion (show false = true from h)) ?_
   repeat (first | refine za4 ?_ | refine za2 ?_ | refine zaf ?_ | refine za3 rfl ?_ | refine zai rfl rfl ?_)
   exact zad ⟨.inr rfl, _, rfl, rfl⟩
end Go.Proofs.Ytoiblgbaeglgoaa
