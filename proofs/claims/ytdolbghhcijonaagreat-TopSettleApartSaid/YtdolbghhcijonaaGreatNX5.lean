/-
  NO LETTER OF A NAME IS A STRANGE ONE; maps by texts.; A FUNCTION CALLED FOR EACH VARIABLE OF AN EXPRESSION.; THE CHECKER's SIGNALS.; REGIONS IN ALL THEIR ORDERS: some operations that only compute, and some that lay new blocks; then one that waits for all.; REGIONS IN ALL THEIR ORDERS, the state behind them put anew.; THE CHECKER's GATES.; THE CHECKER: names and signals.; control.Check AND control.
-/
import Derived.Test.YtdolbghhcijonaaGreatNX4
namespace Go.Proofs.YtdolbghhcijonaaGreat
open Go Go.Am
theorem zrh {p : Nat -> Bool} {s : ByteArray} (h : ∀ i, i < s.size -> (s.get! i).toNat < 128 /\ p (s.get! i).toNat = false) : ∀ f pos, Go.Lib.idxFuncFrom p true s f pos = -1
 | 0, _ => rfl
 | f + 1, pos => by
  unfold Go.Lib.idxFuncFrom;split
  ·rename_i hp;obtain ⟨h1, h2⟩ := h pos hp;have e : Utf8.decode s pos = ((s.get! pos).toNat, 1) := by
    unfold Utf8.decode;simp only [y2e];rw [if_pos h1]
   rw [e, if_neg (by show ¬ p (s.get! pos).toNat = true; rw [h2]; exact y2a)]
   exact zrh h f _
  ·rfl
theorem prB_lt {b : Nat} (h : prB b = true) : b <= 122 := by
 unfold prB smB grB at h;simp at h;omega
theorem zpo (s : List UInt8) (hs : ∀ b ∈ s, prB b.toNat = true) : PF Tryz.prog 129 [.str s, .fn 130 [] []] (.bool false) := by
 refine ⟨ent129, fun ro w us hg hr => ?_⟩;have h0 := hr.2 0 (.str s) rfl;have h1 := hr.2 1 (.fn 130 [] []) rfl;have hsz : us.size = 2 := hr.1;obtain ⟨a, b, rfl⟩ : ∃ a b, us = #[a, b] := by
  obtain ⟨l⟩ := us
  match l, hsz with
  | [a, b], _ => exact ⟨a, b, rfl⟩
 have h0 : VRel w ro none (.str s) a := h0;have h1 : VRel w ro none (.fn 130 [] []) b := h1;cases h0 with
 | @str _ t =>
 cases h1 with
 | @fn _ _ _ _ fs cs e1 e2 _ _ =>
 have e1 : fs = #[] := Array.size_eq_zero_iff.1 e1;have e2 : cs = #[] := Array.size_eq_zero_iff.1 e2;subst e1 e2;have hp : PredGrows Tryz.prog 130 #[] rnB w := fun W x hx hb => by
  refine ((name130 x hx).2 (fun _ => True) W #[.int .i32 x] (fun _ hx => absurd hx y0c) ⟨rfl, fun i v hv => ?_⟩).mono fun e w' ⟨u, e1, e2, e3⟩ => ?_
  ·match i with
   | 0 => simp at hv; subst hv; exact .int
   | i + 1 => simp at hv
  ·cases e3;exact ⟨e1, e2⟩
 have hidx : Go.Lib.idxFunc rnB true t = -1 := zrh (fun i hi => by
  have hm : t.get! i ∈ t.data.toList := by
   have : t.get! i = t.data[i]'hi := by
    show t.data[i]! = _;rw [getElem!_pos t.data i hi]
   rw [this];exact Array.getElem_mem_toList hi
  have hpr := hs _ hm;have hle := prB_lt hpr;refine ⟨by omega, ?_⟩;unfold rnB;rw [Nat.mod_eq_of_lt (by omega), hpr, decide_eq_false (by omega)];rfl) _ _
 refine (Tryz.strings_ContainsFunc_grows 130 #[] (zob Tryz.func130 rfl (by kernel_rfl)) rnB t w hp).mono fun e w' ⟨e1, e2⟩ => ⟨_, e1, e2, ?_⟩
 rw [hidx];exact .bool
section
variable {P : Program} {w0 : World} {N0 : Nat} {k : List Fr} {Q : Exit -> AS -> Prop} {pf : Kn} {ios : List Opr} {n nx ck : Nat} {mk : List (Nat × Nat)} {md : Md} {l : List (Nat × AV)} {hp : List (Nat × Nat × AObj)} {kd : EqK}
theorem o_mapget {d : Nat} {kz : IntKind} {z : Int} {ok : Bool} {ma ka : Arg} {id sp : Nat} {es : List (AV × AV)} {kv : AV} {r : Option AV} (hm : zar ma l = some (.mapv id sp)) (hk : zar ka l = some kv) (hl : Am.look id hp = some (sp, .map es)) (hg : zdx kd kv es = some r)
  (go : Om P w0 N0 md pf ios (st n ((d, zmy ok (.int kz z) r) :: l) hp nx ck mk) k Q) (hx : Ops pf (st n l hp nx ck mk) (.mapget kd (.int kz z) ok ma ka) := by exact trivial) :
  Om P w0 N0 md pf (⟨some d, .mapget kd (.int kz z) ok ma ka, none⟩ :: ios) (st n l hp nx ck mk) k Q := by
 refine zdf ?_ go hx;simp only [iop, zag, hm, hk, AS.mapget, show (st n l hp nx ck mk).heap = hp from rfl, hl, if_true, hg]
 rfl
theorem o_maplen {d : Nat} {ok : Bool} {ma ka : Arg} {id sp : Nat} {es : List (AV × AV)} {kv : AV} (hm : zar ma l = some (.mapv id sp)) (hk : zar ka l = some kv) (hl : Am.look id hp = some (sp, .map es))
  (go : Om P w0 N0 md pf ios (st n ((d, .int .i64 (es.length : Nat)) :: l) hp nx ck mk) k Q) (hx : Ops pf (st n l hp nx ck mk) (.mapget .int .top ok ma ka) := by exact trivial) :
  Om P w0 N0 md pf (⟨some d, .mapget .int .top ok ma ka, none⟩ :: ios) (st n l hp nx ck mk) k Q := by
 refine zdf ?_ go hx;simp only [iop, zag, hm, hk, AS.mapget, show (st n l hp nx ck mk).heap = hp from rfl, hl, if_true]
 rfl
theorem zrv {ma ka va : Arg} {id sp : Nat} {es es' : List (AV × AV)} {kv v : AV} (hm : zar ma l = some (.mapv id sp)) (hk : zar ka l = some kv) (hv : zar va l = some v) (hl : Am.look id hp = some (sp, .map es)) (hg : zdy kd kv v es = some es')
  (go : Om P w0 N0 md pf ios (st n l (zap id (sp, .map es') hp) nx ck mk) k Q) (hx : Ops pf (st n l hp nx ck mk) (.mapset kd ma ka va) := by exact trivial) :
  Om P w0 N0 md pf (⟨none, .mapset kd ma ka va, none⟩ :: ios) (st n l hp nx ck mk) k Q := by
 refine o_op0 (v := .tup []) ?_ go hx;simp only [iop, zag, hm, hk, hv, AS.mapset, show (st n l hp nx ck mk).heap = hp from rfl, hl, if_true, hg]
 rfl
theorem o_mkmap {d : Nat} (go : Om P w0 N0 md pf ios (st n ((d, .mapv nx ck) :: l) ((nx, ck, .map []) :: hp) (nx + 1) (ck + 1) mk) k Q) (hx : Ops pf (st n l hp nx ck mk) .mkmap := by exact trivial) :
  Om P w0 N0 md pf (⟨some d, .mkmap, none⟩ :: ios) (st n l hp nx ck mk) k Q :=
 zdf rfl go hx
end
def zl4 : List (List UInt8) -> Nat -> List (AV × AV)
 | [], _ => []
 | k :: ks, j => (.str k, .int .i64 (j : Nat)) :: zl4 ks (j + 1)
theorem zrl : ∀ (ks : List (List UInt8)) (j : Nat), (zl4 ks j).length = ks.length
 | [], _ => rfl
 | k :: ks, j => by rw [zl4, y19, y19, zrl ks]
theorem zvo (k : List UInt8) : ∀ (ks : List (List UInt8)) (j : Nat), k ∉ ks -> zdx .str (.str k) (zl4 ks j) = some none
 | [], j, _ => rfl
 | x :: ks, j, h => by
  have ih := zvo k ks (j + 1) fun h2 => h (y0a _ h2);have e : ¬ k = x := fun e => h (by rw [e]; exact y01 ..);show (match (some (k == x)) with | some true => some (some (AV.int .i64 (j : Nat))) | some false => zdx .str (.str k) (zl4 ks (j + 1)) | none => none) = _;rw [show (k == x) = false from beq_eq_false_iff_ne.2 e]
  exact ih
theorem zqd (k : List UInt8) (v : AV) : ∀ (ks : List (List UInt8)) (j : Nat), k ∉ ks -> zdy .str (.str k) v (zl4 ks j) = some (zl4 ks j ++ [(.str k, v)])
 | [], j, _ => rfl
 | x :: ks, j, h => by
  have ih := zqd k v ks (j + 1) fun h2 => h (y0a _ h2);have e : ¬ k = x := fun e => h (by rw [e]; exact y01 ..);show (match (some (k == x)) with | some true => some ((AV.str k, v) :: zl4 ks (j + 1)) | some false => (zdy .str (.str k) v (zl4 ks (j + 1))).map ((AV.str x, AV.int .i64 (j : Nat)) :: ·) | none => none) = _;rw [show (k == x) = false from beq_eq_false_iff_ne.2 e]
  show (zdy .str (.str k) v (zl4 ks (j + 1))).map _ = _;rw [ih];rfl
theorem zkc : ∀ (ks : List (List UInt8)) (j : Nat) (k : List UInt8), zl4 (ks ++ [k]) j = zl4 ks j ++ [(.str k, .int .i64 ((j + ks.length : Nat) : Int))]
 | [], j, k => rfl
 | x :: ks, j, k => by
  rw [List.cons_append, zl4, zkc ks, zl4, y19, show j + 1 + ks.length = j + (ks.length + 1) by omega]
  rfl
set_option maxRecDepth 100000
mutual
def ze3 : Ex -> List Int
 | .nd op ix args => (if op = 1 then [ix] else []) ++ zg8 args
def zg8 : List Ex -> List Int
 | [] => []
 | y :: ys => ze3 y ++ zg8 ys
end
theorem zqz {v : Int} {y : Ex} : ∀ {l : List Ex}, y ∈ l -> v ∈ ze3 y -> v ∈ zg8 l
 | [], h, _ => by cases h
 | z :: zs, h, hv => by
  rw [zg8];rcases y0f.1 h with rfl | h
  ·exact y1f _ hv
  ·exact y1a _ (zqz h hv)
structure Capt (M : Nat -> Prop) (fv : AV) (a sa b sb : Nat) (H : HS) : Prop where
 ma : ¬ M a
 mb : ¬ M b
 la : a < H.next
 lb : b < H.next
 ha : Am.look a H.heap = some (sa, .cells [fv])
 hb : Am.look b H.heap = some (sb, .cells [.fn 73 [] [.mptr a sa 0, .mptr b sb 0]])
theorem Capt.keep {M : Nat -> Prop} {fv : AV} {a sa b sb : Nat} {H H' : HS} (h : Capt M fv a sa b sb H) (k : Keep M H H') : Capt M fv a sa b sb H' :=
 ⟨h.ma, h.mb, y09 h.la k.next, y09 h.lb k.next, (k.look _ h.ma h.la).trans h.ha, (k.look _ h.mb h.lb).trans h.hb⟩
def zub : IC := sR [oM 17 (.bin .lss (.t 16) (.t 15))]
 (.seq (.cond (.t 17) (.skip)
 (.exit 0))
 (.seq (.block 1 (sR [oM 18 (.idxs 3 (.t 14) (.t 16)),
  oL 19 3 18,
  oM 5 (.alloc [.int .i64 0, .int .i64 0, .nils]),
  ⟨none, .store 3 (.t 5) (.t 19), none⟩]
 (.region [oN 20 2,
  oL 21 3 5,
  oM 22 (.call (.t 20) [(.t 21)])] none)))
 (.region [oM 23 (.bin .add (.t 16) (cI 1)),
  oT 16 23] none)))
-- pneumatic/control.each$1
def ic73 : IC := sR [oM 3 (.box (.t 0))]
 (.seq (sR [oF 6 0 3,
  oN 7 6,
  oM 8 (.bin .eql (.t 7) (cI 1))]
 (.cond (.t 8) (.region [oN 9 1,
  oF 10 1 3,
  oN 11 10,
  oM 12 (.call (.t 9) [(.t 11)])] none)
 (.skip)))
 (sR [oF 13 2 3,
  oN 14 13,
  oM 15 (.len false (.t 14)),
  oM 16 (.mov (cI 0))]
 (.block 0 (.loop zub))))
theorem fn73 : env0.fn 73 = some ⟨24, ic73, []⟩ := by kernel_rfl
section
variable {σ : Type} {M : Nat -> Prop} {I : σ -> HS -> Prop} {step : σ -> Int -> σ} {ok : Int -> Prop}
set_option maxHeartbeats 4000000 in
set_option maxRecDepth 100000 in
theorem visit73 {w0 : World} {N0 : Nat} {g : FuncId} {fi ca : List AV} {a sa b sb : Nat} (hloc : Local M I) (hy : ∀ s line H, ok line -> I s H -> CT Tryz.prog w0 N0 (.fn g fi ca) [.int .i64 line] H (fun _ H' => Keep M H H' /\ I (step s line) H')) :
  ∀ (q : Nat) (x : Ex) (H : HS) (s : σ), SizeOf.sizeOf x <= q -> Slim x -> (∀ v ∈ ze3 x, ok v) -> I s H -> Capt M (.fn g fi ca) a sa b sb H ->
   FT Tryz.prog w0 N0 73 [.agg (cX x), .mptr a sa 0, .mptr b sb 0] H (fun _ H' => Keep M H H' /\ I ((ze3 x).foldl step s) H') := by
 intro q
 induction q with
 | zero => intro x H s hq; cases x; simp at hq
 | succ q ih =>
 intro x H s hq hw hok hI hC;obtain ⟨op, ix, args⟩ := x;obtain ⟨hlen, hsl⟩ : args.length < 9223372036854775808 /\ ∀ y ∈ args, Slim y := by cases hw with | nd h k => exact ⟨h, k⟩
 refine zbl env0_ok fn73 [(0, .agg (cX (.nd op ix args))), (1, .mptr a sa 0), (2, .mptr b sb 0)] (y04 rfl) rfl ?_;unfold ic73;have rest : ∀ (H1 : HS) (s1 : σ) (l : List (Nat × AV)), Keep M H H1 -> I s1 H1 -> Am.look H.next H1.heap = some (H.clk, .cells (cX (.nd op ix args))) -> H.next < H1.next -> (ze3 (.nd op ix args)).foldl step s = (zg8 args).foldl step s1 -> zah 2 l = some (.mptr b sb 0) -> zah 3 l = some (.mptr H.next H.clk 0) ->
   Zm Tryz.prog w0 N0 (some none) (sR [oF 13 2 3, oN 14 13, oM 15 (.len false (.t 14)), oM 16 (.mov (cI 0))] (.block 0 (.loop zub)))
    (st 24 l H1.heap H1.next H1.clk) [] (fun e S' => (e = .normal \/ e = .ret) /\ ∃ v, S'.leave.res [] = some v /\ (Keep M H S'.leave.hs /\ I ((ze3 (.nd op ix args)).foldl step s) S'.leave.hs)) := by
  intro H1 s1 l hK hI1 hlk hnx hfold l2 l3;have hokL : ∀ v ∈ zg8 args, ok v := fun v hv => hok v (by rw [ze3]; exact y1a _ hv);refine zsr rfl (zae l3 ?_);refine zab rfl hlk hnx rfl ?_;refine zc9 ?_;refine zav (fun mm S => ∃ (i : Nat) (s' : σ) (H' : HS), mm = args.length - i /\ i <= args.length /\ (zg8 args).foldl step s1 = (zg8 (args.drop i)).foldl step s' /\ I s' H' /\ Keep M H H' /\
    S = st 24 [(2, .mptr b sb 0), (14, .vs (cXs args)), (15, .int .i64 (cXs args).length), (16, .int .i64 (i : Nat))] H'.heap H'.next H'.clk) args.length
   (zb9 (.cons l2 (.cons rfl (.cons rfl (.cons rfl .nil))))) ⟨0, s1, H1, rfl, y0r _, rfl, hI1, hK, rfl⟩ ?_
  rintro mm S ⟨i, s', H', rfl, hi, hwl, hI', hK', rfl⟩;have hC' := hC.keep hK';unfold zub;refine zcj ?_;refine za4 rfl rfl rfl (fun h1 => ?_) fun h1 => ?_
  ·have hlt : i < args.length := by
    have := of_decide_eq_true h1;rw [zai] at this;omega
   have hge := ze2 hlt;have hmem : args[i] ∈ args := y0x hlt;rw [y0q hlt, zg8, List.foldl_append] at hwl;have hoky : ∀ v ∈ ze3 args[i], ok v := fun v hv => hokL v (zqz hmem hv);generalize args[i] = y at hwl hge hmem hoky;have w1 := za7 i (by omega);obtain ⟨yo, yi, ya⟩ := y;refine zb4 ?_;refine zaj rfl rfl rfl rfl za3 rfl rfl ?_;rw [zc7];refine zcj ?_;refine zab rfl ((za5 hC'.lb).trans hC'.hb) (y15 hC'.lb) rfl ?_;refine zbp rfl za3 (y07 _) rfl rfl ?_;refine zhh _ rfl rfl (zgo (ih (.nd yo yi ya) ⟨_, _, _⟩ s' (by have := zgm (op := op) (ix := ix) hmem; omega) (hsl _ hmem) hoky (hloc.new hI' _ _) (hC'.keep (Keep.new M H' _)))) (fun _ _ _ _ hm => absurd hm y0c) fun v H3 hF3 => ?_
   obtain ⟨hK3, hI3⟩ := hF3;refine zb7 ?_;rw [w1];exact zad (show args.length - (i + 1) < args.length - i by omega) skp ⟨i + 1, _, H3, rfl, hlt, hwl, hI3, hK'.trans ((Keep.new M H' _).trans hK3), rfl⟩
  ·have hi2 : i = args.length := by
    have := of_decide_eq_false h1;rw [zai] at this;omega
   rw [hi2, y1l, zg8] at hwl;refine zb4 ?_;refine zbq ?_;repeat (first | refine zem ?_)
   exact zaa ⟨.inl rfl, _, rfl, hK', by rw [hfold, hwl]; exact hI'⟩
 refine zb7 ?_;refine zab rfl za3 (y07 _) rfl ?_;have hK0 : Keep M H ⟨(H.next, H.clk, .cells (cX (.nd op ix args))) :: H.heap, H.next + 1, H.clk + 1⟩ := Keep.new M H (H.clk, _);have hC0 := hC.keep hK0;refine za4 rfl rfl rfl (fun h1 => ?_) fun h1 => ?_
 ·have h1 : op = 1 := by simpa using h1
  subst h1;refine zcj ?_;refine zab rfl hC0.ha hC0.la rfl ?_;repeat (first | refine zae rfl ?_)
  refine zab rfl za3 (y07 _) rfl ?_;refine zhh _ rfl rfl (hy s ix ⟨_, _, _⟩ (hok ix (by rw [ze3, if_pos rfl]; exact y1f _ (y0o.2 rfl))) (hloc.new hI _ _)) (fun _ _ _ _ hm => absurd hm y0c) fun v H2 hF => ?_;obtain ⟨hK2, hI2⟩ := hF;refine onu ?_;exact rest H2 _ _ (hK0.trans hK2) hI2 ((hK2.look H.next (fun hm => y21 _ (hloc.lt s H hI _ hm)) (y07 _)).trans za3) (y09 (y07 _) hK2.next) (by rw [ze3, if_pos rfl]; rfl) rfl rfl
 ·have h1 : ¬ op = 1 := by simpa using h1
  refine onu (zfj rfl (zbd (zau ?_)));exact rest ⟨_, _, _⟩ s _ hK0 (hloc.new hI _ _) za3 (y07 _) (by rw [ze3, if_neg h1]; rfl) rfl rfl
-- pneumatic/control.each
def ic49 : IC := sR [oM 2 (.box (.t 0)),
  oM 3 (.box (.t 1))]
 (sR [oM 4 (.alloc [.nilf])]
 (sR [oM 5 (.mkfn 73 [] [(.t 3), (.t 4)]),
  ⟨none, .store 1 (.t 4) (.t 5), none⟩]
 (.region [oN 6 4,
  oL 7 3 2,
  oM 8 (.call (.t 6) [(.t 7)])] none)))
theorem fn49 : env0.fn 49 = some ⟨9, ic49, []⟩ := by kernel_rfl
set_option maxHeartbeats 4000000 in
set_option maxRecDepth 100000 in
theorem each49 {w0 : World} {N0 : Nat} {g : FuncId} {fi ca : List AV} (hloc : Local M I) (hy : ∀ s line H, ok line -> I s H -> CT Tryz.prog w0 N0 (.fn g fi ca) [.int .i64 line] H (fun _ H' => Keep M H H' /\ I (step s line) H')) (x : Ex) (hx : Slim x) (hok : ∀ v ∈ ze3 x, ok v) (H : HS) (s : σ) (hI : I s H) :
  FT Tryz.prog w0 N0 49 [.agg (cX x), .fn g fi ca] H (fun _ H' => Keep M H H' /\ I ((ze3 x).foldl step s) H') := by
 obtain ⟨op, ix, args⟩ := x;refine zbl env0_ok fn49 [(0, .agg (cX (.nd op ix args))), (1, .fn g fi ca)] (y04 rfl) rfl ?_;unfold ic49;have hlt := hloc.lt s H hI;refine zbh ?_;refine zaj rfl rfl rfl rfl za3 rfl rfl ?_;rw [zc7];refine zcj ?_;refine zab rfl za3 (y07 _) rfl ?_;refine zbp rfl ((za5 (y15 (y07 _))).trans ((za5 (y07 _)).trans za3)) (by omega) rfl rfl ?_;have hk0 : Keep M H ⟨(H.next + 1 + 1, H.clk + 1 + 1, .cells (setAt 0 [.nilf] [.fn 73 [] [.mptr (H.next + 1) (H.clk + 1) 0, .mptr (H.next + 1 + 1) (H.clk + 1 + 1) 0]])) :: (H.next + 1, H.clk + 1, .cells [.fn g fi ca]) :: (H.next, H.clk, .cells (cX (.nd op ix args))) :: H.heap, H.next + 1 + 1 + 1, H.clk + 1 + 1 + 1⟩ :=
  ((Keep.new M H (H.clk, .cells (cX (.nd op ix args)))).trans (Keep.new M ⟨(H.next, H.clk, .cells (cX (.nd op ix args))) :: H.heap, H.next + 1, H.clk + 1⟩ (H.clk + 1, .cells [.fn g fi ca]))).trans (Keep.new M ⟨(H.next + 1, H.clk + 1, .cells [.fn g fi ca]) :: (H.next, H.clk, .cells (cX (.nd op ix args))) :: H.heap, H.next + 1 + 1, H.clk + 1 + 1⟩ (H.clk + 1 + 1, _))
 refine zhh _ rfl rfl (zgo (visit73 hloc hy (SizeOf.sizeOf (Ex.nd op ix args)) (.nd op ix args) ⟨_, _, _⟩ s (y08 _) hx hok (hloc.of s H ⟨_, _, _⟩ hI hk0.next fun i hm => (za5 (by have := hlt i hm; omega)).trans ((za5 (by have := hlt i hm; omega)).trans (za5 (hlt i hm))))
  ⟨fun hm => by have := hlt _ hm; omega, fun hm => by have := hlt _ hm; omega, by show H.next + 1 < H.next + 1 + 1 + 1; omega, by show H.next + 1 + 1 < H.next + 1 + 1 + 1; omega, (za5 (y07 _)).trans za3, za3⟩)) (fun _ _ _ _ hm => absurd hm y0c) fun v H2 hF => ?_
 obtain ⟨hK, hF⟩ := hF;refine zay ?_;exact zaa ⟨.inl rfl, _, rfl, hk0.trans hK, hF⟩
end
end Go.Proofs.YtdolbghhcijonaaGreat
namespace Go.Proofs.YtdolbghhcijonaaGreat
open Go Go.Am
set_option maxRecDepth 100000
def ixP (P : Int -> Bool) : List Int -> Nat -> Int
 | [], _ => -1
 | z :: l, j => if P z = true then (j : Nat) else ixP P l (j + 1)
theorem zvv (P : Int -> Bool) : ∀ (l : List Int) (j : Nat), decide (ixP P l j >= 0) = l.any P
 | [], j => rfl
 | z :: l, j => by
  rw [ixP, List.any_cons];split
  ·rename_i h;rw [h, decide_eq_true (by omega)];rfl
  ·rename_i h;rw [zvv P l (j + 1)];simp [h]
def b114_0 : IC := sR [oM 9 (.bin .lss (.t 8) (.t 7))]
 (.seq (.cond (.t 9) (.skip)
 (.exit 0))
 (.seq (.block 1 (sR [oT 10 8,
  oT 5 10]
 (sR [oT 11 1,
  oT 12 0,
  oT 13 5,
  oM 14 (.idxs 1 (.t 12) (.t 13)),
  oN 15 14,
  oM 16 (.call (.t 11) [(.t 15)])]
 (.cond (.t 16) (sR [oT 17 5,
  oT 4 17]
 (.ret))
 (.skip)))))
 (.region [oM 18 (.bin .add (.t 8) (cI 1)),
  oT 8 18] none)))
-- slices.IndexFunc[[]int,int]
def ic114 : IC := sR [oM 4 (.mov (cI 0))]
 (.seq (sR [oT 6 0,
  oM 7 (.len false (.t 6)),
  oM 8 (.mov (cI 0))]
 (.block 0 (.loop b114_0)))
 (sR [oM 4 (.mov (cI (-1)))]
 (.ret)))
theorem fn114 : env0.fn 114 = some ⟨19, ic114, [.t 4]⟩ := by kernel_rfl
set_option maxHeartbeats 2000000 in
set_option maxRecDepth 100000 in
theorem index114 {P : Int -> Bool} {g : FuncId} {fi ca : List AV} (hP : ∀ z, PF Tryz.prog g (fi ++ [.int .i64 z] ++ ca) (.bool (P z))) (hv : ∀ S : AS, fi.map (S.view VD) = fi /\ ca.map (S.view VD) = ca) (l : List Int) (hl : l.length <= 1000000) : PF Tryz.prog 114 [vsI l, .fn g fi ca] (.int .i64 (ixP P l 0)) := by
 have hlen := zfn l;refine za6 env0_ok fn114 [(0, vsI l), (1, .fn g fi ca)] (y04 rfl) rfl fun w0 N0 => ?_;unfold ic114 vsI;refine zc9 ?_;refine zav (fun mm S => ∃ i, mm = l.length - i /\ i <= l.length /\ ixP P l 0 = ixP P (l.drop i) i /\ S = st 19 [(0, vsI l), (1, .fn g fi ca), (7, .int .i64 (l.length : Nat)), (8, .int .i64 (i : Nat))] [] 0 0) l.length
  (zb9 (.cons rfl (.cons rfl (.cons (by rw [<- hlen]; rfl) (.cons rfl .nil))))) ⟨0, rfl, y0r _, rfl, rfl⟩ ?_
 rintro mm S ⟨i, rfl, hi, hx, rfl⟩;unfold b114_0 vsI;refine zcj ?_;refine za4 rfl rfl rfl (fun h3 => ?_) fun h3 => ?_
 ·have hlt : i < l.length := y1i.1 (of_decide_eq_true h3);have hge := zij hlt;have e1 : zA l i = l[i] := by unfold zA; rw [y0j, y0d hlt]; rfl
  rw [y0q hlt, ixP, <- e1] at hx;have w1 := za7 i (by omega);have p := hP (zA l i);generalize zA l i = z at *;refine zb7 ?_;refine zes rfl rfl (by rw [y16, y16, (hv _).1, (hv _).2]; rfl) p (fun _ => rfl) ?_;cases hp : P z with
  | true =>
   rw [hp, if_pos rfl] at hx;refine zb7 ?_;exact zaa ⟨.inr rfl, _, rfl, by rw [hx]; rfl⟩
  | false =>
   rw [hp, if_neg y2a] at hx;refine zb7 ?_;rw [w1];exact zad (show l.length - (i + 1) < l.length - i by omega) skp ⟨i + 1, rfl, hlt, hx, rfl⟩
 ·have hie : i = l.length := by
   have h4 : ¬ ((i : Nat) : Int) < (l.length : Nat) := of_decide_eq_false h3;omega
  rw [hie, y1l, ixP] at hx;rw [hx];refine zb4 ?_;refine zbq ?_;refine zb4 ?_;exact uE
-- slices.ContainsFunc[[]int,int]
def ic84 : IC := sR [oM 4 (.mov (.c (.bool false)))]
 (sR [oT 5 0,
  oT 6 1,
  oM 7 (.call (.c (.fn 114 [] [])) [(.t 5), (.t 6)]),
  oM 8 (.bin .geq (.t 7) (cI 0)),
  oT 4 8]
 (.ret))
theorem fn84 : env0.fn 84 = some ⟨9, ic84, [.t 4]⟩ := by kernel_rfl
set_option maxRecDepth 100000 in
theorem zhx {P : Int -> Bool} {g : FuncId} {fi ca : List AV} (hP : ∀ z, PF Tryz.prog g (fi ++ [.int .i64 z] ++ ca) (.bool (P z))) (hv : ∀ S : AS, fi.map (S.view VD) = fi /\ ca.map (S.view VD) = ca) (hv3 : ∀ S : AS, S.view VD (.fn g fi ca) = .fn g fi ca) (l : List Int) (hl : l.length <= 1000000) : PF Tryz.prog 84 [vsI l, .fn g fi ca] (.bool (l.any P)) := by
 have p := index114 hP hv l hl;have hany := zvv P l 0;refine za6 env0_ok fn84 [(0, vsI l), (1, .fn g fi ca)] (y04 rfl) rfl fun w0 N0 => ?_;unfold ic84 vsI at *;generalize ixP P l 0 = r at *;refine zcj ?_;refine zal rfl (by show [_, AS.view _ VD (.fn g fi ca)] = _; rw [hv3]; rfl) p (fun _ => rfl) ?_
 rw [<- hany];refine za4 rfl rfl rfl (fun h => ?_) fun h => ?_;all_goals
  have h : decide (r >= 0) = _ := h;rw [h];refine zcj ?_;exact uE
def outB (c : Ctl) (z : Int) : Bool := decide (z < 0) || decide (z >= (lnC c : Int))
-- pneumatic/control.check$1
def ic111 : IC := sR [oM 3 (.mov (.c (.bool false)))]
 (sR [oT 4 0,
  oM 5 (.bin .lss (.t 4) (cI 0)),
  oT 6 5,
  ⟨(some 7), .mov (.t 0), some (6, false)⟩,
  ⟨(some 8), .load (some 5) (.t 1), some (6, false)⟩,
  ⟨(some 9), .call (.c (.fn 46 [] [])) [(.t 8)], some (6, false)⟩,
  ⟨(some 10), .bin .geq (.t 7) (.t 9), some (6, false)⟩,
  oM 11 (.pick (.t 6) (.c (.bool true)) (.t 10)),
  oT 3 11]
 (.ret))
theorem fn111 : env0.fn 111 = some ⟨12, ic111, [.t 3]⟩ := by kernel_rfl
set_option maxRecDepth 100000 in
theorem check111 {c : Ctl} (h : Sm c) (z : Int) : PF Tryz.prog 111 [.int .i64 z, .vptr (cC c)] (.bool (outB c z)) := by
 have p := zmo h;refine za6 env0_ok fn111 [(0, .int .i64 z), (1, .vptr (cC c))] (y04 rfl) rfl fun w0 N0 => ?_;unfold ic111 outB;unfold cC at *;refine zcj ?_;refine za4 rfl rfl rfl (fun h => ?_) fun h => ?_
 ·rw [show decide (z < 0) = true from h]
  refine zc9 ?_;exact uE
 ·rw [show decide (z < 0) = false from h]
  refine zb7 ?_;refine za4 rfl rfl rfl (fun h => ?_) fun h => ?_;all_goals
   have h : decide (z >= (lnC c : Int)) = _ := h;rw [h];refine zl6 ?_;exact uE
-- (*pneumatic/control.checker).memory
def ic105 : IC := sR [oM 4 (.mov (cI 0))]
 (.seq (.seq (.region [oT 6 0,
  oM 7 (.nilchk (.t 6)),
  oF 8 0 7,
  oF 9 2 8,
  oN 10 9,
  oT 11 1,
  oM 12 (.idxs 10 (.t 10) (.t 11)),
  oF 13 5 12,
  oL 14 3 13,
  oT 15 0,
  oM 16 (.nilchk (.t 15)),
  oF 17 0 16,
  oL 18 5 17,
  oM 19 (.call (.c (.fn 46 [] [])) [(.t 18)]),
  oM 20 (.call (.c (.fn 85 [] [])) [(.t 14), (.t 19)]),
  oT 5 20] (some [[], [0], [1], [2], [3], [], [4, 5], [6], [7], [], [9], [10], [11], [12], [8, 13, 13], [14, 14, 0, 1, 2, 3, 4, 5, 6, 7, 8, 9, 10, 11, 12, 13, 14]]))
 (sR [oT 21 5,
  oM 22 (.bin .neq (.t 21) (cI 0))]
 (.cond (.t 22) (sR [oT 23 5,
  oT 4 23]
 (.ret))
 (.skip))))
 (.seq (sR [oT 24 0,
  oM 25 (.nilchk (.t 24)),
  oF 26 0 25,
  oF 27 2 26,
  oN 28 27,
  oT 29 1,
  oM 30 (.idxs 10 (.t 28) (.t 29)),
  oF 31 8 30,
  oN 32 31,
  oM 33 (.bin .neq (.t 32) (cI 0))]
 (.cond (.t 33) (sR [oM 4 (.mov (cI 3))]
 (.ret))
 (.skip)))
 (sR [oM 4 (.mov (cI 0))]
 (.ret))))
theorem fn105 : env0.fn 105 = some ⟨34, ic105, [.t 4]⟩ := by kernel_rfl
set_option maxHeartbeats 2000000 in
set_option maxRecDepth 100000 in
theorem zw5 {c : Ctl} (h : Ct c) {i : Nat} (hi : i < c.sg.length) (hk : (sgA c.sg i).kd = 1) (K : List AV) : PF Tryz.prog 105 [.vptr (cC c ++ K), .int .i64 (i : Nat)] (.int .i64 0) := by
 have p46 := zmo h.toSm;have hge := zdi hi;have p85 := zun (sgA c.sg i).off (h.x1 _ (zkr hi)).2 (lnC c);rw [zqy, h.off i hi hk, zhv] at p85;have hd := h.d0 i hi (by rw [hk]; decide);refine za6 env0_ok fn105 [(0, .vptr (cC c ++ K)), (1, .int .i64 (i : Nat))] (y04 rfl) rfl fun w0 N0 => ?_;unfold ic105;unfold cC vsG at *;generalize sgA c.sg i = s at *;obtain ⟨nm, kd, on, off, dl, ini⟩ := s;dsimp only at *;subst hd;refine zcj ?_;refine zc2 env0_ok _ (hL2 p46 p85) (fun g => Nat.beq g 46 || Nat.beq g 85) rfl rfl rfl ?_;refine zbh ?_;refine zaa ?_;exact ⟨.inr rfl, _, rfl, rfl⟩
-- (*pneumatic/control.checker).timer
def ic106 : IC := sR [oM 4 (.mov (cI 0))]
 (.seq (sR [oT 6 0,
  oM 7 (.nilchk (.t 6)),
  oF 8 0 7,
  oF 9 2 8,
  oN 10 9,
  oT 11 1,
  oM 12 (.idxs 10 (.t 10) (.t 11)),
  oL 13 10 12,
  oM 5 (.alloc [.str [], .int .i64 0, .int .i64 0, .int .i64 0, .nils, .int .i64 0, .int .i64 0, .nils, .int .i64 0, .bool false]),
  ⟨none, .store 10 (.t 5) (.t 13), none⟩]
 (.block 0 (sR [oF 15 8 5,
  oN 16 15,
  oM 17 (.bin .lss (.t 16) (cI 1)),
  oT 18 17,
  ⟨(some 19), .faddr 8 (.t 5), some (18, false)⟩,
  ⟨(some 20), .load none (.t 19), some (18, false)⟩,
  ⟨(some 21), .bin .gtr (.t 20) (cI 1000000), some (18, false)⟩,
  oM 22 (.pick (.t 18) (.c (.bool true)) (.t 21)),
  oT 14 22]
 (.cond (.t 14) (sR [oM 4 (.mov (cI 2))]
 (.ret))
 (sR [oF 24 5 5,
  oL 25 3 24,
  oM 26 (.call (.c (.fn 128 [] [])) [(.t 25)]),
  oM 27 (.un .not (.t 26)),
  oT 28 27,
  ⟨(some 29), .faddr 9 (.t 5), some (28, false)⟩,
  ⟨(some 30), .load none (.t 29), some (28, false)⟩,
  oM 31 (.pick (.t 28) (.c (.bool true)) (.t 30)),
  oT 23 31]
 (.cond (.t 23) (sR [oM 4 (.mov (cI 3))]
 (.ret))
 (.skip)))))))
 (sR [oM 4 (.mov (cI 0))]
 (.ret)))
theorem fn106 : env0.fn 106 = some ⟨32, ic106, [.t 4]⟩ := by kernel_rfl
set_option maxHeartbeats 2000000 in
set_option maxRecDepth 100000 in
theorem timer106 {c : Ctl} (h : Ct c) {i : Nat} (hi : i < c.sg.length) (hk : (sgA c.sg i).kd = 2) (K : List AV) : PF Tryz.prog 106 [.vptr (cC c ++ K), .int .i64 (i : Nat)] (.int .i64 0) := by
 have hge := zdi hi;have hd := h.tm i hi hk;have hz := h.zf i hi (by rw [hk]; decide);have p128 := zxm (sgA c.sg i).off;rw [hz.1] at p128;have hini := hz.2;refine za6 env0_ok fn106 [(0, .vptr (cC c ++ K)), (1, .int .i64 (i : Nat))] (y04 rfl) rfl fun w0 N0 => ?_;unfold ic106;unfold cC vsG at *;generalize sgA c.sg i = s at *;obtain ⟨hd1, hd2⟩ := hd;repeat (first | refine zb5 ?_ | refine za8 rfl ?_ | refine zay ?_ | refine zau ?_ | refine zbc ?_ | refine zfj rfl ?_ | refine zgy rfl ?_ | refine zan rfl ?_ | refine zb0 rfl rfl ?_ | refine zbf rfl rfl rfl rfl ?_ | refine zaj rfl rfl rfl rfl rfl rfl rfl ?_ | refine zae rfl ?_ | refine zbo rfl rfl rfl ?_ | refine zce ?_ | refine zb8 rfl rfl ?_ | refine zto rfl rfl ?_ | refine zcn rfl rfl (by omega) (by assumption) rfl ?_ | refine zkh rfl ?_ | refine zal rfl rfl (by assumption) noC ?_ | refine za4 rfl rfl rfl (fun h => absurd (of_decide_eq_true h) (by omega)) fun _ => ?_)
 rw [hini];refine zb7 ?_;exact uE
end Go.Proofs.YtdolbghhcijonaaGreat
namespace Go.Proofs.YtdolbghhcijonaaGreat
open Go Go.Am
theorem zkx {i : Nat} {D : List Nat} (hi : i ∉ D) : ∀ l : List Nat, l.Nodup -> i ∈ l -> (l.filter fun j => !D.contains j).length = (l.filter fun j => !(i :: D).contains j).length + 1
 | [], _, h => by cases h
 | j :: l, hn, h => by
  obtain ⟨h1, h2⟩ := y2k.1 hn;rw [List.filter_cons, List.filter_cons];by_cases e : j = i
  ·subst e;have e1 : (!D.contains j) = true := by simpa using hi
   have e2 : (!(j :: D).contains j) = false := by simp
   rw [if_pos e1, if_neg (by rw [e2]; exact y2a), y19];congr 2;refine List.filter_congr fun x hx => ?_;have hx2 : x ≠ j := fun e => h1 (e ▸ hx);simp [hx2]
  ·have hm : i ∈ l := (y0f.1 h).resolve_left fun e2 => e e2.symm;have ih := zkx hi l h2 hm;have e3 : (!(i :: D).contains j) = (!D.contains j) := by simp [e]
   rw [e3];split
   ·rw [y19, y19, ih]
   ·exact ih
theorem ztp {p : Nat -> Prop} : ∀ {l : List Nat}, (∀ i ∈ l, p i) -> AllL p l
 | [], _ => trivial
 | i :: _, h => ⟨h i (y01 ..), ztp fun j hj => h j (y0a _ hj)⟩
theorem zt9 {pres : List (List Nat)} {N : Nat} {D : List Nat} (hp : ∀ i < N, ∀ p ∈ pres.getD i [], p < i) (h : zdv pres N D = []) : ∀ i < N, i ∈ D := by
 intro i
 induction i using Nat.strongRecOn with
 | ind i ih =>
  intro hi;refine y1j fun hni => ?_;have : i ∈ zdv pres N D := by
   unfold zdv;rw [y25];refine ⟨y0m.2 hi, ?_⟩;rw [y0g, y0h];refine ⟨by simpa using hni, fun p hpp => ?_⟩;have := hp i hi p hpp;exact y1m.2 (ih p this (by omega))
  rw [h] at this;cases this
theorem zpf {P : Program} {w0 : World} {N0 : Nat} {rd : Option (Nat × Nat)} {ios : List Opr} {pres : List (List Nat)} {K : AS -> Prop} (hp : ∀ i < ios.length, ∀ p ∈ pres.getD i [], p < i) (I : List Nat -> AS -> Prop)
  (step : ∀ n D S i, I D S -> i < ios.length -> i ∉ D -> (∀ p ∈ pres.getD i [], p ∈ D) -> (∀ S', I (i :: D) S' -> AnyF P w0 N0 rd ios pres n (i :: D) S' K) -> StF P w0 N0 rd ios pres n D S K i)
  (fin : ∀ D S, I D S -> (∀ i < ios.length, i ∈ D) -> K S) : ∀ (n : Nat) (D : List Nat) (S : AS), I D S -> ((List.range ios.length).filter fun i => !D.contains i).length = n -> AnyF P w0 N0 rd ios pres n D S K
 | 0, D, S, hI, hn => by
  have h0 := y0k.1 hn;rw [List.filter_eq_nil_iff] at h0;have hall : ∀ i < ios.length, i ∈ D := fun i hi => by
   have := h0 i (y0m.2 hi);simpa using this
  refine ⟨?_, fin D S hI hall⟩;unfold zdv;rw [List.filter_eq_nil_iff];intro i hi;have := y1m.2 (hall i (y0m.1 hi));rw [this];simp
 | n + 1, D, S, hI, hn => by
  refine AnyF.succ (fun h => ?_) (ztp fun i hi => ?_)
  ·have hall := zt9 hp h;rw [List.filter_eq_nil_iff.2 fun i hi => by
    have := y1m.2 (hall i (y0m.1 hi));rw [this];simp] at hn
   cases hn
  ·unfold zdv at hi;rw [y25, y0g, y0h] at hi;obtain ⟨h1, h2, h3⟩ := hi;have h2 : i ∉ D := by simpa using h2
   refine step n D S i hI (y0m.1 h1) h2 (fun p hp => y1m.1 (h3 p hp)) fun S' hI' => zpf hp I step fin n (i :: D) S' hI' ?_;have := zkx h2 (List.range ios.length) List.nodup_range h1;omega
theorem zfx (d : Nat) (v : AV) (l : List (Nat × AV)) : zah d ((d, v) :: l) = some v := by
 rw [zah, y2h]
theorem zax {d t : Nat} (h : d ≠ t) (v : AV) (l : List (Nat × AV)) : zah t ((d, v) :: l) = zah t l := by
 rw [zah];cases hb : Nat.beq d t with
 | true => exact absurd (y14 hb) h
 | false => rfl
structure Reg where
 m : Nat
 dst : Nat -> Nat
 qv : Nat -> Option ((Nat -> Nat) -> (Nat -> Nat) -> AV)
 lw : Nat -> Nat -> Nat -> AV
 lc : Nat -> List AV
structure Kr (R : Reg) (base : List (Nat × AV)) (b : Nat) (old : Nat -> Option (Nat × AObj)) (D : List Nat) (l : List (Nat × AV)) (hp : List (Nat × Nat × AObj)) (nx : Nat) (nm sm : Nat -> Nat) : Prop where
 bs : ∀ t v, (t, v) ∈ base -> zah t l = some v
 bx : b <= nx
 ol : ∀ j, j < b -> Am.look j hp = old j
 q : ∀ i f, i ∈ D -> R.qv i = some f -> zah (R.dst i) l = some (f nm sm)
 lv : ∀ i, i ∈ D -> R.qv i = none -> zah (R.dst i) l = some (R.lw i (nm i) (sm i))
 lh : ∀ i, i ∈ D -> R.qv i = none -> Am.look (nm i) hp = some (sm i, .cells (R.lc i)) /\ b <= nm i /\ nm i < nx
 ij : ∀ i j, i ∈ D -> j ∈ D -> R.qv i = none -> R.qv j = none -> nm i = nm j -> i = j
def updN (f : Nat -> Nat) (i x : Nat) : Nat -> Nat := fun j => if j = i then x else f j
theorem zif (f : Nat -> Nat) (i x : Nat) : updN f i x i = x := if_pos rfl
theorem zdl {f : Nat -> Nat} {i x j : Nat} (h : j ≠ i) : updN f i x j = f j := if_neg h
theorem any_reg {P : Program} {w0 : World} {N0 : Nat} {rd : Option (Nat × Nat)} {ios : List Opr} {pres : List (List Nat)} {K : AS -> Prop} {n nx0 ck0 : Nat} {l0 : List (Nat × AV)} {hp0 : List (Nat × Nat × AObj)} (R : Reg) (base : List (Nat × AV))
  (Z : Nat -> AS -> Prop) (hm : R.m < ios.length) (hp : ∀ i < ios.length, ∀ p ∈ pres.getD i [], p < i) (hlast : ∀ i, R.m <= i -> i < ios.length -> ∀ p < i, p ∈ pres.getD i [])
  (hdst : ∀ i < R.m, ∀ j < R.m, R.dst i = R.dst j -> i = j) (hbase : ∀ t v, (t, v) ∈ base -> ∀ i < R.m, R.dst i ≠ t) (hb0 : ∀ t v, (t, v) ∈ base -> zah t l0 = some v)
  (hq : ∀ i f, R.qv i = some f -> ∀ nm sm nm' sm' : Nat -> Nat, (∀ p ∈ pres.getD i [], nm p = nm' p /\ sm p = sm' p) -> f nm sm = f nm' sm')
  (hop : ∀ i < R.m, ∀ n1 D l hp nx ck nm sm, Kr R base nx0 (fun j => Am.look j hp0) D l hp nx nm sm -> (∀ p ∈ pres.getD i [], p ∈ D) ->
   match R.qv i with
   | some f => AnyF P w0 N0 rd ios pres n1 (i :: D) (st n ((R.dst i, f nm sm) :: l) hp nx ck) K -> StF P w0 N0 rd ios pres n1 D (st n l hp nx ck) K i
   | none => AnyF P w0 N0 rd ios pres n1 (i :: D) (st n ((R.dst i, R.lw i nx ck) :: l) ((nx, ck, .cells (R.lc i)) :: hp) (nx + 1) (ck + 1)) K -> StF P w0 N0 rd ios pres n1 D (st n l hp nx ck) K i)
  (hZ : ∀ l hp nx ck nm sm, Kr R base nx0 (fun j => Am.look j hp0) (List.range R.m) l hp nx nm sm -> Z R.m (st n l hp nx ck))
  (hlops : ∀ j, R.m <= j -> j < ios.length -> ∀ S, Z j S -> ∀ n1 D, (∀ S', Z (j + 1) S' -> AnyF P w0 N0 rd ios pres n1 (j :: D) S' K) -> StF P w0 N0 rd ios pres n1 D S K j)
  (hfin : ∀ S, Z ios.length S -> K S) :
  AnyF P w0 N0 rd ios pres ios.length [] (st n l0 hp0 nx0 ck0) K := by
 refine zpf hp (fun D S => (∀ i ∈ D, i < R.m) /\ (∀ j ∈ D, ∀ p ∈ pres.getD j [], p ∈ D) /\ (∃ l hp nx ck nm sm, S = st n l hp nx ck /\ Kr R base nx0 (fun j => Am.look j hp0) D l hp nx nm sm) \/ (∃ j, R.m < j /\ j <= ios.length /\ (∀ i, i ∈ D ↔ i < j) /\ Z j S)) ?_ ?_ ios.length [] _ (.inl ⟨fun i h => absurd h y0c, fun i h => absurd h y0c, l0, hp0, nx0, ck0, fun _ => 0, fun _ => 0, rfl, ⟨hb0, y08 _, fun _ _ => rfl, fun i f h => absurd h y0c, fun i h => absurd h y0c, fun i h => absurd h y0c, fun i j h => absurd h y0c⟩⟩) ?_
 ·intro n1 D S i hI hi hnD hpD go;rcases hI with ⟨hD, hdc, l, hp1, nx, ck, nm, sm, rfl, hK⟩ | ⟨j, h1, h2, h3, hZj⟩
  ·have hlast0 := hlast R.m (y08 _) hm;by_cases hlt : i < R.m
   ·have e3 := hop i hlt n1 D l hp1 nx ck nm sm hK hpD;have hne : ∀ j ∈ D, R.dst i ≠ R.dst j := fun j hj e => hnD (by rw [hdst i hlt j (hD j hj) e]; exact hj);have hdc2 : ∀ j ∈ i :: D, ∀ p ∈ pres.getD j [], p ∈ i :: D := fun j hj p hpp => by
     rcases y0f.1 hj with rfl | hj
     ·exact y0a _ (hpD p hpp)
     ·exact y0a _ (hdc j hj p hpp)
    cases hqv : R.qv i with
    | some f =>
     rw [hqv] at e3;refine e3 (go _ (.inl ⟨fun j hj => ?_, hdc2, _, _, _, _, nm, sm, rfl, ?_⟩))
     ·rcases y0f.1 hj with rfl | hj
      ·exact hlt
      ·exact hD j hj
     ·refine ⟨fun t v ht => ?_, hK.bx, hK.ol, fun j g hj hg => ?_, fun j hj hg => ?_, fun j hj hg => ?_, fun j k hj hk hg hg2 e => ?_⟩
      ·rw [zax (hbase t v ht i hlt)]; exact hK.bs t v ht
      ·rcases y0f.1 hj with rfl | hj
       ·rw [hqv] at hg; injection hg with hg; subst hg;exact zfx ..
       ·rw [zax (hne j hj)]; exact hK.q j g hj hg
      ·rcases y0f.1 hj with rfl | hj
       ·rw [hqv] at hg; cases hg
       ·rw [zax (hne j hj)]; exact hK.lv j hj hg
      ·rcases y0f.1 hj with rfl | hj
       ·rw [hqv] at hg; cases hg
       ·exact hK.lh j hj hg
      ·rcases y0f.1 hj with rfl | hj
       ·rw [hqv] at hg; cases hg
       ·rcases y0f.1 hk with rfl | hk
        ·rw [hqv] at hg2; cases hg2
        ·exact hK.ij j k hj hk hg hg2 e
    | none =>
     rw [hqv] at e3;have hji : ∀ j ∈ D, j ≠ i := fun j hj e => hnD (e ▸ hj);refine e3 (go _ (.inl ⟨fun j hj => ?_, hdc2, _, _, _, _, updN nm i nx, updN sm i ck, rfl, ?_⟩))
     ·rcases y0f.1 hj with rfl | hj
      ·exact hlt
      ·exact hD j hj
     ·refine ⟨fun t v ht => ?_, Nat.le_succ_of_le hK.bx, fun j hj => ?_, fun j g hj hg => ?_, fun j hj hg => ?_, fun j hj hg => ?_, fun j k hj hk hg hg2 e => ?_⟩
      ·rw [zax (hbase t v ht i hlt)]; exact hK.bs t v ht
      ·rw [za5 (y09 hj hK.bx)]; exact hK.ol j hj
      ·rcases y0f.1 hj with rfl | hj
       ·rw [hqv] at hg; cases hg
       ·rw [zax (hne j hj), hK.q j g hj hg];refine congrArg some (hq j g hg _ _ _ _ fun p hpp => ?_);by_cases hpi : p = i
        ·exact absurd (hdc j hj p hpp) (by rw [hpi]; exact hnD)
        ·rw [zdl hpi, zdl hpi]; exact ⟨rfl, rfl⟩
      ·rcases y0f.1 hj with rfl | hj
       ·rw [zif, zif]; exact zfx ..
       ·rw [zax (hne j hj), zdl (hji j hj), zdl (hji j hj)]; exact hK.lv j hj hg
      ·rcases y0f.1 hj with rfl | hj
       ·rw [zif, zif]; exact ⟨za3, hK.bx, y07 _⟩
       ·rw [zdl (hji j hj), zdl (hji j hj)];obtain ⟨a1, a2, a3⟩ := hK.lh j hj hg;exact ⟨(za5 a3).trans a1, a2, y15 a3⟩
      ·by_cases e1 : j = i
       ·by_cases e2 : k = i
        ·rw [e1, e2]
        ·have hk' : k ∈ D := (y0f.1 hk).resolve_left e2;rw [e1, zif, zdl e2] at e;exact absurd (hK.lh k hk' hg2).2.2 (by omega)
       ·have hj' : j ∈ D := (y0f.1 hj).resolve_left e1;by_cases e2 : k = i
        ·rw [e2, zif, zdl e1] at e;exact absurd (hK.lh j hj' hg).2.2 (by omega)
        ·rw [zdl e1, zdl e2] at e;exact hK.ij j k hj' ((y0f.1 hk).resolve_left e2) hg hg2 e
   ·have him : i = R.m := by
     refine y1j fun hne => ?_;exact absurd (hD R.m (hpD R.m (hlast i (by omega) hi R.m (by omega)))) (y21 _)
    subst him;have hall : ∀ j < R.m, j ∈ D := fun j hj => hpD j (hlast0 j hj);refine hlops R.m (y08 _) hm _ (hZ l hp1 nx ck nm sm ⟨hK.bs, hK.bx, hK.ol, fun j g hj hg => hK.q j g (hall j (y0m.1 hj)) hg, fun j hj hg => hK.lv j (hall j (y0m.1 hj)) hg, fun j hj hg => hK.lh j (hall j (y0m.1 hj)) hg, fun j k hj hk hg hg2 e => hK.ij j k (hall j (y0m.1 hj)) (hall k (y0m.1 hk)) hg hg2 e⟩) n1 D fun S' hS' => go _ (.inr ⟨R.m + 1, y07 _, hm, fun j => ⟨fun hj => ?_, fun hj => ?_⟩, hS'⟩)
    ·rcases y0f.1 hj with rfl | hj
     ·omega
     ·have := hD j hj; omega
    ·by_cases e : j = R.m
     ·rw [e]; exact y01 ..
     ·exact y0a _ (hall j (by omega))
  ·have hij : i = j := by
    have a1 : ¬ i < j := fun h => hnD ((h3 i).2 h);refine y1j fun hne => ?_;have := (h3 j).1 (hpD j (hlast i (by omega) hi j (by omega)));omega
   subst hij;refine hlops i (Nat.le_of_lt h1) hi S hZj n1 D fun S' hS' => go _ (.inr ⟨i + 1, by omega, hi, fun j => ⟨fun hj => ?_, fun hj => ?_⟩, hS'⟩)
   ·rcases y0f.1 hj with rfl | hj
    ·omega
    ·have := (h3 j).1 hj; omega
   ·by_cases e : j = i
    ·rw [e]; exact y01 ..
    ·exact y0a _ ((h3 j).2 (by omega))
 ·intro D S hI hD;rcases hI with ⟨h1, _⟩ | ⟨j, h1, h2, h3, hZ⟩
  ·exact absurd (h1 R.m (hD R.m hm)) (y21 _)
  ·have : j = ios.length := by
    refine y1j fun hne => ?_;have := (h3 j).1 (hD j (by omega));omega
   subst this;exact hfin S hZ
 ·rw [List.filter_eq_self.2 fun i _ => by simp, y1v]
def regOk (m N : Nat) (pres : List (List Nat)) (dst : Nat -> Nat) (bk : List Nat) : Bool :=
 Nat.blt m N && ((List.range N).all fun i => (pres.getD i []).all fun p => Nat.blt p i) && ((List.range N).all fun i => Nat.blt i m || (List.range i).all fun p => (pres.getD i []).any fun q => Nat.beq q p) &&
  ((List.range m).all fun i => (List.range m).all fun j => Nat.beq i j || !Nat.beq (dst i) (dst j)) && (List.range m).all fun i => bk.all fun t => !Nat.beq (dst i) t
theorem zfe {a b : Nat} : Nat.beq a b = true ↔ a = b := ⟨y14, fun e => by rw [e]; exact y2h _⟩
theorem zo2 {a b : Nat} : Nat.blt a b = true ↔ a < b := by
 show Nat.ble (a + 1) b = true ↔ _;exact ⟨y04, Nat.ble_eq_true_of_le⟩
theorem zqp {P : Program} {w0 : World} {N0 : Nat} {rd : Option (Nat × Nat)} {ios : List Opr} {pres : List (List Nat)} {K : AS -> Prop} {n nx0 ck0 : Nat} {l0 : List (Nat × AV)} {hp0 : List (Nat × Nat × AObj)} (R : Reg) (base : List (Nat × AV))
  (Z : Nat -> AS -> Prop) (N : Nat) (hN : ios.length = N) (hck : regOk R.m N pres R.dst (base.map (·.1)) = true) (hb0 : ∀ t v, (t, v) ∈ base -> zah t l0 = some v)
  (hq : ∀ i f, R.qv i = some f -> ∀ nm sm nm' sm' : Nat -> Nat, (∀ p ∈ pres.getD i [], nm p = nm' p /\ sm p = sm' p) -> f nm sm = f nm' sm')
  (hop : ∀ i < R.m, ∀ n1 D l hp nx ck nm sm, Kr R base nx0 (fun j => Am.look j hp0) D l hp nx nm sm -> (∀ p ∈ pres.getD i [], p ∈ D) ->
   match R.qv i with
   | some f => AnyF P w0 N0 rd ios pres n1 (i :: D) (st n ((R.dst i, f nm sm) :: l) hp nx ck) K -> StF P w0 N0 rd ios pres n1 D (st n l hp nx ck) K i
   | none => AnyF P w0 N0 rd ios pres n1 (i :: D) (st n ((R.dst i, R.lw i nx ck) :: l) ((nx, ck, .cells (R.lc i)) :: hp) (nx + 1) (ck + 1)) K -> StF P w0 N0 rd ios pres n1 D (st n l hp nx ck) K i)
  (hZ : ∀ l hp nx ck nm sm, Kr R base nx0 (fun j => Am.look j hp0) (List.range R.m) l hp nx nm sm -> Z R.m (st n l hp nx ck))
  (hlops : ∀ j, R.m <= j -> j < N -> ∀ S, Z j S -> ∀ n1 D, (∀ S', Z (j + 1) S' -> AnyF P w0 N0 rd ios pres n1 (j :: D) S' K) -> StF P w0 N0 rd ios pres n1 D S K j)
  (hfin : ∀ S, Z N S -> K S) :
  AnyF P w0 N0 rd ios pres ios.length [] (st n l0 hp0 nx0 ck0) K := by
 subst hN;unfold regOk at hck;rw [y0g, y0g, y0g, y0g] at hck;obtain ⟨⟨⟨⟨h1, h2⟩, h3⟩, h4⟩, h5⟩ := hck;simp only [y0h, y0m] at h2 h3 h4 h5;refine any_reg R base Z (zo2.1 h1) (fun i hi p hp => zo2.1 (h2 i hi p hp)) (fun i hm hi p hp => ?_) (fun i hi j hj e => ?_) (fun t v ht i hi e => ?_) hb0 hq hop hZ hlops hfin
 ·have := h3 i hi;rw [y0v] at this;rcases this with h | h
  ·exact absurd (zo2.1 h) (by omega)
  ·rw [y0h] at h;have := h p (y0m.2 hp);rw [y2f] at this;obtain ⟨q, hq, e⟩ := this;rw [<- zfe.1 e];exact hq
 ·have := h4 i hi j hj;rw [y0v] at this;rcases this with h | h
  ·exact zfe.1 h
  ·rw [zfe.2 e] at h;cases h
 ·have := h5 i hi t (y0p.2 ⟨(t, v), ht, rfl⟩);rw [zfe.2 e] at this;cases this
end Go.Proofs.YtdolbghhcijonaaGreat
namespace Go.Proofs.YtdolbghhcijonaaGreat
open Go Go.Am
theorem z_any2 {P : Program} {w0 : World} {N0 : Nat} {k : List Fr} {Q : Exit -> AS -> Prop} {ios : List Opr} {pres : List (List Nat)} (hm : P.follows .mixedOrders = true) {y : IC} {S S1 : AS}
  (h : ∀ rd (K : AS -> Prop), (∀ S', Sub0 w0 N0 S' S1 -> K S') -> AnyF P w0 N0 rd ios pres ios.length [] S K) (go : Zm P w0 N0 none y S1 k Q) : Zm P w0 N0 none (.region ios (some pres)) S (.seq y :: k) Q :=
 zpd hm fun rd => h rd _ fun _ hs => (zau (zpe (md := none) hs go)).ok
section
variable {n nx ck : Nat} {mk : List (Nat × Nat)} {l : List (Nat × AV)} {hp : List (Nat × Nat × AObj)}
theorem zvj {sz bytes : Nat} {z : List AV} {a c : Arg} {lv cv : Int} {kd kc : IntKind} (ha : zar a l = some (.int kd lv)) (hc : zar c l = some (.int kc cv)) (hb : 0 <= lv /\ lv <= cv /\ cv <= 1048576 /\ bytes <= 16777216) :
  iop (st n l hp nx ck mk) (.mkslice sz bytes z a c) = some (.ms nx ck sz 0 lv.toNat (some cv.toNat), st n l ((nx, ck, .cells (zeu cv.toNat z)) :: hp) (nx + 1) (ck + 1) mk) := by
 simp only [iop, zag, ha, hc, if_pos hb];rfl
end
end Go.Proofs.YtdolbghhcijonaaGreat
namespace Go.Proofs.YtdolbghhcijonaaGreat
open Go Go.Am
set_option maxRecDepth 100000
mutual
theorem zr2 {n v : Int} : ∀ {x : Ex}, nds n x = 0 -> v ∈ ze3 x -> occB v x = true
 | .nd op ix args, hs, h => by
  obtain ⟨hn, hch⟩ := zj5 hs;obtain ⟨o0, o5, kl, km, i0, im⟩ := zj6 hn;rw [ze3] at h;rw [occB];by_cases h1 : op = 1
  ·subst h1;rw [if_pos rfl] at h ⊢;simp [zoq] at km;rw [km, zg8, y0s] at h;rw [y0o.1 h, decide_eq_true rfl]
  ·rw [if_neg h1] at h ⊢;exact zr0 hch h
theorem zr0 {n v : Int} : ∀ {l : List Ex}, (∀ y ∈ l, nds n y = 0) -> v ∈ zg8 l -> occL v l = true
 | [], _, h => by rw [zg8] at h; cases h
 | y :: ys, hs, h => by
  rw [zg8] at h;rw [occL];rcases y1n.1 h with h | h
  ·rw [zr2 (hs y (y01 ..)) h, Bool.true_or]
  ·rw [zr0 (fun z hz => hs z (y0a _ hz)) h, Bool.or_true]
end
mutual
theorem zh4 {n v : Int} : ∀ {x : Ex}, nds n x = 0 -> v ∈ ze3 x -> 0 <= v /\ v < n
 | .nd op ix args, hs, h => by
  obtain ⟨hn, hch⟩ := zj5 hs;obtain ⟨o0, o5, kl, km, i0, im⟩ := zj6 hn;rw [ze3] at h;rcases y1n.1 h with h | h
  ·split at h
   ·rename_i h1;have := y0o.1 h;subst h1 this;simp [zt4] at im;exact ⟨i0, by omega⟩
   ·cases h
  ·exact zr1 hch h
theorem zr1 {n v : Int} : ∀ {l : List Ex}, (∀ y ∈ l, nds n y = 0) -> v ∈ zg8 l -> 0 <= v /\ v < n
 | [], _, h => by rw [zg8] at h; cases h
 | y :: ys, hs, h => by
  rw [zg8] at h;rcases y1n.1 h with h | h
  ·exact zh4 (hs y (y01 ..)) h
  ·exact zr1 (fun z hz => hs z (y0a _ hz)) h
end
def okG (c : Ctl) (i : Nat) (v : Int) : Prop := 0 <= v /\ v < (lnC c : Int) /\ ∀ k : Nat, k < c.sg.length -> v = ((fsC c + k : Nat) : Int) -> i <= k -> ¬ (sgA c.sg k).kd = 0
theorem okG_on {c : Ctl} (h : Ct c) {i : Nat} (hi : i < c.sg.length) (hk : (sgA c.sg i).kd = 0) : ∀ v ∈ ze3 (sgA c.sg i).on, okG c i v := fun v hv => by
 have hr := zh4 (zhf (h.on i hi)) hv;have ho := zr2 (zhf (h.on i hi)) hv;refine ⟨hr.1, hr.2, fun k hkl e hik h0 => ?_⟩;have hl := h.lt i hi hk;unfold ziu at hl;rw [List.any_eq_false] at hl;have := hl k (y0m.2 hkl);unfold ltB at this;rw [e] at ho;rw [ho, decide_eq_true h0, decide_eq_true hik] at this;exact this rfl
-- (*pneumatic/control.checker).gate$1
def ic127 : IC := sR [oT 6 0,
  oN 7 1,
  oM 8 (.nilchk (.t 7)),
  oF 9 0 8,
  oL 10 5 9,
  oM 11 (.call (.c (.fn 47 [] [])) [(.t 10)]),
  oM 12 (.bin .sub (.t 6) (.t 11)),
  oT 5 12]
 (.region [oN 13 2,
  oT 14 13,
  ⟨(some 15), .mov (.t 5), some (14, false)⟩,
  ⟨(some 16), .load none (.t 3), some (14, false)⟩,
  ⟨(some 17), .bin .geq (.t 15) (.t 16), some (14, false)⟩,
  ⟨(some 18), .mov (.t 17), some (14, false)⟩,
  ⟨(some 19), .load none (.t 1), some (18, true)⟩,
  ⟨(some 20), .nilchk (.t 19), some (18, true)⟩,
  ⟨(some 21), .faddr 0 (.t 20), some (18, true)⟩,
  ⟨(some 22), .faddr 2 (.t 21), some (18, true)⟩,
  ⟨(some 23), .load none (.t 22), some (18, true)⟩,
  ⟨(some 24), .mov (.t 5), some (18, true)⟩,
  ⟨(some 25), .idxs 10 (.t 23) (.t 24), some (18, true)⟩,
  ⟨(some 26), .faddr 1 (.t 25), some (18, true)⟩,
  ⟨(some 27), .load none (.t 26), some (18, true)⟩,
  ⟨(some 28), .bin .eql (.t 27) (cI 0), some (18, true)⟩,
  ⟨(some 29), .pick (.t 18) (.t 28) (.c (.bool false)), some (14, false)⟩,
  oM 30 (.pick (.t 14) (.c (.bool true)) (.t 29)),
  ⟨none, .store 1 (.t 2) (.t 30), none⟩] none)
theorem fn127 : env0.fn 127 = some ⟨31, ic127, []⟩ := by kernel_rfl
def ltI (_ : Unit) (H : HS) : Prop := 0 < H.next /\ Am.look 0 H.heap = some (0, .cells [.bool false])
theorem zw2 : Local (fun i => i = 0) ltI :=
 ⟨fun _ _ h _ hi => hi ▸ h.1, fun _ _ _ h hn hl => ⟨y09 h.1 hn, (hl 0 rfl).trans h.2⟩⟩
set_option maxHeartbeats 2000000 in
set_option maxRecDepth 100000 in
theorem gate127 {w0 : World} {N0 : Nat} {c : Ctl} (h : Ct c) {i : Nat} (K : List AV) (v : Int) (hv : okG c i v) (H : HS) (hI : ltI () H) :
  FT Tryz.prog w0 N0 127 [.int .i64 v, .vptr [.vptr (cC c ++ K)], .mptr 0 0 0, .vptr [.int .i64 (i : Nat)]] H (fun _ H' => Keep (fun i => i = 0) H H' /\ ltI () H') := by
 have p47 := zjv h.toSm;have hfs : fsC c <= 1000 := by
  have := h.a6;have := h.i16;unfold fsC;omega
 obtain ⟨v0, v1, v2⟩ := hv;have hs16 := h.s16;have hw : IntKind.wrap .i64 (v - (fsC c : Nat)) = v - (fsC c : Nat) := zbb _ (by unfold lnC at v1; omega) (by unfold lnC at v1; omega);have hfin : ∀ {b : Bool}, b = false -> Keep (fun i => i = 0) H ⟨zap 0 (0, .cells [.bool b]) H.heap, H.next, H.clk⟩ /\ ltI () ⟨zap 0 (0, .cells [.bool b]) H.heap, H.next, H.clk⟩ := fun e => by
  subst e;exact ⟨⟨y08 _, y08 _, fun j hj _ => by rw [za0, if_neg (fun e => hj e.symm)]⟩, hI.1, by rw [za0, if_pos rfl]⟩
 obtain ⟨k1, k2⟩ := hI;refine zbl env0_ok fn127 [(0, .int .i64 v), (1, .vptr [.vptr (cC c ++ K)]), (2, .mptr 0 0 0), (3, .vptr [.int .i64 (i : Nat)])] (y04 rfl) rfl ?_;unfold ic127;unfold cC vsG at *;refine zbh ?_;rw [hw];refine zab rfl k2 k1 rfl ?_;refine zbu ?_;refine za4 rfl rfl rfl (fun h1 => ?_) fun h1 => ?_
 ·have h1 : v - (fsC c : Nat) >= (i : Nat) := of_decide_eq_true h1;obtain ⟨k, hk⟩ : ∃ k : Nat, v - (fsC c : Nat) = (k : Nat) := ⟨(v - (fsC c : Nat)).toNat, by omega⟩
  have hkl : k < c.sg.length := by unfold lnC at v1; omega
  have hge := zdi hkl;have hkd := v2 k hkl (by omega) (by omega);rw [hk];generalize sgA c.sg k = s at *;refine zbh ?_;refine za4 rfl rfl rfl (fun h2 => absurd (by simpa using h2) hkd) fun h2 => ?_;refine zc9 ?_;refine zaj rfl rfl rfl rfl k2 rfl rfl ?_;repeat (first | refine zay ?_)
  exact zaa ⟨.inl rfl, _, rfl, hfin rfl⟩
 ·refine zc9 ?_;refine zaj rfl rfl rfl rfl k2 rfl rfl ?_;repeat (first | refine zay ?_)
  exact zaa ⟨.inl rfl, _, rfl, hfin rfl⟩
theorem okW1 {a b sb : Nat} {cs : List AV} (h : a ≠ b) : okW [a] [(some (b, sb), cs)] = true := by
 show (!zt2 b [a] && true) = true;have : zt2 b [a] = false := by
  cases hb : zt2 b [a] with
  | false => rfl
  | true => exact absurd (y0o.1 (zj4.1 hb)) fun e => h e.symm
 rw [this];rfl
def z10 : List AV := [.str [], .int .i64 0, .int .i64 0, .int .i64 0, .nils, .int .i64 0, .int .i64 0, .nils, .int .i64 0, .bool false]
def rg104 (X : List AV) (v4 : AV) (i : Nat) (s : Sig) : Reg where
 m := 10
 dst := fun j => match j with | 8 => 5 | 9 => 6 | j => j + 7
 qv := fun j => match j with
  | 0 => some fun _ _ => .vptr X
  | 1 => some fun _ _ => .vptr X
  | 2 => some fun _ _ => .vptr X
  | 3 => some fun _ _ => .vptr (X.drop 2)
  | 4 => some fun _ _ => v4
  | 5 => some fun _ _ => .int .i64 (i : Nat)
  | 6 => some fun _ _ => .vptr (c10 s)
  | 7 => some fun _ _ => .agg (c10 s)
  | _ => none
 lw := fun _ n s => .mptr n s 0
 lc := fun j => match j with | 8 => z10 | _ => [.bool false]
-- (*pneumatic/control.checker).gate
def ic104 : IC := sR [oM 2 (.box (.t 0)),
  oM 3 (.box (.t 1)),
  oM 4 (.mov (cI 0))]
 (.seq (.region [oN 7 2,
  oM 8 (.nilchk (.t 7)),
  oF 9 0 8,
  oF 10 2 9,
  oN 11 10,
  oN 12 3,
  oM 13 (.idxs 10 (.t 11) (.t 12)),
  oL 14 10 13,
  oM 5 (.alloc [.str [], .int .i64 0, .int .i64 0, .int .i64 0, .nils, .int .i64 0, .int .i64 0, .nils, .int .i64 0, .bool false]),
  oM 6 (.alloc [.bool false]),
  ⟨none, .store 10 (.t 5) (.t 14), none⟩,
  ⟨none, .store 1 (.t 6) (.c (.bool false)), none⟩] (some [[], [0], [1], [2], [3], [], [4, 5], [6], [], [], [8, 7, 0, 1, 2, 3, 4, 5, 6, 7, 8, 9], [9, 10, 0, 1, 2, 3, 4, 5, 6, 7, 8, 9, 10]]))
 (sR [oF 15 2 5,
  oL 16 3 15,
  oM 17 (.mkfn 127 [] [(.t 2), (.t 6), (.t 3)]),
  oM 18 (.call (.c (.fn 49 [] [])) [(.t 16), (.t 17)])]
 (.seq (.block 0 (sR [oN 20 6,
  oT 19 20]
 (.cond (.t 19) (sR [oM 4 (.mov (cI 9))]
 (.ret))
 (sR [oF 22 5 5,
  oL 23 3 22,
  oM 24 (.call (.c (.fn 128 [] [])) [(.t 23)]),
  oM 25 (.un .not (.t 24)),
  oT 26 25,
  ⟨(some 27), .faddr 9 (.t 5), some (26, false)⟩,
  ⟨(some 28), .load none (.t 27), some (26, false)⟩,
  oM 29 (.pick (.t 26) (.c (.bool true)) (.t 28)),
  oT 30 29,
  ⟨(some 31), .faddr 8 (.t 5), some (30, false)⟩,
  ⟨(some 32), .load none (.t 31), some (30, false)⟩,
  ⟨(some 33), .bin .neq (.t 32) (cI 0), some (30, false)⟩,
  oM 34 (.pick (.t 30) (.c (.bool true)) (.t 33)),
  oT 21 34]
 (.cond (.t 21) (sR [oM 4 (.mov (cI 3))]
 (.ret))
 (.skip))))))
 (sR [oM 4 (.mov (cI 0))]
 (.ret)))))
theorem fn104 : env0.fn 104 = some ⟨35, ic104, [.t 4]⟩ := by kernel_rfl
set_option maxHeartbeats 4000000 in
set_option maxRecDepth 100000 in
theorem gate104 {c : Ctl} (h : Ct c) {i : Nat} (hi : i < c.sg.length) (hk : (sgA c.sg i).kd = 0) (K : List AV) : PF Tryz.prog 104 [.vptr (cC c ++ K), .int .i64 (i : Nat)] (.int .i64 0) := by
 have hge := zdi hi;have hz := h.zf i hi (by rw [hk]; decide);have hd := h.d0 i hi (by rw [hk]; decide);have p128 := zxm (sgA c.sg i).off;rw [hz.1] at p128;have hini := hz.2;have hok := okG_on h hi hk;have hsl := (h.x1 _ (zkr hi)).1;have hea := fun w0 N0 => each49 (w0 := w0) (N0 := N0) (g := 127) (fi := []) (ca := [.vptr [.vptr (cC c ++ K)], .mptr 0 0 0, .vptr [.int .i64 (i : Nat)]]) zw2 (step := fun s _ => s) (ok := okG c i) (fun s v H hv hI => zgo (gate127 h K v hv H hI)) (sgA c.sg i).on hsl hok;rw [zhv] at hea;refine za6 env0_ok fn104 [(0, .vptr (cC c ++ K)), (1, .int .i64 (i : Nat))] (y04 rfl) rfl fun w0 N0 => ?_;have hea := hea w0 N0;unfold ic104;generalize sgA c.sg i = s at *;refine zsr rfl (zd6 rfl rfl (zd6 rfl rfl (zan rfl (onu ?_))));refine zc3 [] [(0, 0, [.vptr (cC c ++ K)]), (1, 1, [.int .i64 (i : Nat)])] [(2, .vptr [.vptr (cC c ++ K)]), (3, .vptr [.int .i64 (i : Nat)])] rfl (.cons rfl rfl (.cons rfl rfl .nil)) .nil (.cons rfl (.fptr rfl rfl) (.cons rfl (.fptr rfl rfl) .nil)) ?_;refine zb5 (z_any2 env0_ok.mix (S1 := st 35 [(2, .vptr [.vptr (cC c ++ K)]), (3, .vptr [.int .i64 (i : Nat)]), (5, .vptr (c10 s)), (6, .mptr 0 0 0)] [(0, 0, .cells [.bool false])] 1 1) (fun rd K0 hK => ?_) ?_)
 ·refine zqp (rg104 (cC c ++ K) (vsG c.sg) i s) [(2, .vptr [.vptr (cC c ++ K)]), (3, .vptr [.int .i64 (i : Nat)])] (fun j S => ∃ l hp nx ck n8 s8 n9 s9, S = st 35 l hp nx ck /\ zah 2 l = some (.vptr [.vptr (cC c ++ K)]) /\ zah 3 l = some (.vptr [.int .i64 (i : Nat)]) /\ zah 5 l = some (.mptr n8 s8 0) /\ zah 6 l = some (.mptr n9 s9 0) /\ n8 ≠ n9 /\ (11 <= j -> Am.look n8 hp = some (s8, .cells (c10 s))) /\ (j = 10 -> Am.look n8 hp = some (s8, .cells z10) /\ zah 14 l = some (.agg (c10 s))) /\ Am.look n9 hp = some (s9, .cells [.bool false])) 12 rfl rfl ?_ ?_ ?_ ?_ ?_ ?_
  ·intro t v ht;rcases y0f.1 ht with e | ht
   ·cases e; rfl
   ·cases y0o.1 ht; rfl
  ·intro j f e nm sm nm' sm' _;unfold rg104 at e;dsimp only at e;split at e <;> cases e <;> rfl
  ·intro j hj n1 D l hp nx ck nm sm hK hp;have hj : j < 10 := hj
   match j, hj with
   | 0, _ => exact fun go => za9 rfl rfl (zlo (hK.bs 2 _ (y01 ..)) rfl) go
   | 1, _ => exact fun go => za9 rfl rfl (g_nilv (hK.q 0 _ (hp 0 (y01 ..)) rfl)) go
   | 2, _ => exact fun go => za9 rfl rfl (zh9 (hK.q 1 _ (hp 1 (y01 ..)) rfl) rfl rfl) go
   | 3, _ => exact fun go => za9 rfl rfl (zh9 (hK.q 2 _ (hp 2 (y01 ..)) rfl) rfl rfl) go
   | 4, _ => exact fun go => za9 rfl rfl (zlo (hK.q 3 _ (hp 3 (y01 ..)) rfl) rfl) go
   | 5, _ => exact fun go => za9 rfl rfl (zlo (hK.bs 3 _ (me 1 rfl)) rfl) go
   | 6, _ => exact fun go => za9 rfl rfl (zrd (hK.q 4 _ (hp 4 (y01 ..)) rfl) (hK.q 5 _ (hp 5 (me 1 rfl)) rfl) (y11 _) hge rfl) go
   | 7, _ => exact fun go => za9 rfl rfl (zi1 (hK.q 6 _ (hp 6 (y01 ..)) rfl) rfl rfl rfl) go
   | 8, _ => exact fun go => za9 rfl rfl (zhz) go
   | 9, _ => exact fun go => za9 rfl rfl (zhz) go
   | j + 10, h => exact absurd h (by omega)
  ·intro l hp nx ck nm sm hK;have m : ∀ j, j < 10 -> j ∈ List.range 10 := fun j hj => y0m.2 hj;exact ⟨l, hp, nx, ck, nm 8, sm 8, nm 9, sm 9, rfl, hK.bs 2 _ (y01 ..), hK.bs 3 _ (me 1 rfl), hK.lv 8 (m 8 (by decide)) rfl, hK.lv 9 (m 9 (by decide)) rfl, fun e => absurd (hK.ij 8 9 (m 8 (by decide)) (m 9 (by decide)) rfl rfl e) (by decide), fun h => absurd h (by show ¬ 11 <= 10; decide), fun _ => ⟨(hK.lh 8 (m 8 (by decide)) rfl).1, hK.q 7 _ (m 7 (by decide)) rfl⟩, (hK.lh 9 (m 9 (by decide)) rfl).1⟩
  ·rintro j h1 h2 S ⟨l, hp, nx, ck, n8, s8, n9, s9, rfl, a2, a3, a5, a6, hne, k8, k7, k9⟩ n1 D go;have h1 : 10 <= j := h1;rcases (show j = 10 \/ j = 11 by omega) with rfl | rfl
   ·obtain ⟨k7, q7⟩ := k7 rfl;refine zik rfl (zf8 a5 q7 rfl rfl k7 rfl rfl) (go _ ⟨l, _, _, _, n8, s8, n9, s9, rfl, a2, a3, a5, a6, hne, fun _ => ?_, fun h => absurd h (by decide), ?_⟩)
    ·rw [za0, if_pos rfl]; rfl
    ·rw [za0, if_neg hne]; exact k9
   ·refine zik rfl (zf8 a6 rfl rfl rfl k9 rfl rfl) (go _ ⟨l, _, _, _, n8, s8, n9, s9, rfl, a2, a3, a5, a6, hne, fun _ => ?_, fun h => absurd h (by decide), ?_⟩)
    ·rw [za0, if_neg (fun e => hne e.symm)]; exact k8 (by decide)
    ·rw [za0, if_pos rfl]; rfl
  ·rintro S ⟨l, hp, nx, ck, n8, s8, n9, s9, rfl, a2, a3, a5, a6, hne, k8, _, k9⟩;have k8 := k8 (by decide);refine hK _ ?_;exact zsb [(some (n9, s9), [.bool false])] [(n8, s8, c10 s)] rfl rfl (okW1 hne) (.cons k8 rfl .nil) (.cons k9 (.keep rfl) .nil) (.cons a2 (.same rfl) (.cons a3 (.same rfl) (.cons a5 (.fptr (by rw [fzl, y2h, y2h]; rfl) rfl) (.cons a6 (.mptr rfl) .nil))))
 refine zbh ?_;refine zhh _ rfl rfl (zbk (hea ⟨[(0, 0, .cells [.bool false])], 1, 1⟩ () ⟨Nat.one_pos, rfl⟩)) (fun v H hF => fun m hm => absurd hm y0c) fun v H2 hF => ?_;obtain ⟨hK2, k1, k2⟩ := hF;refine onu ?_;refine zc9 ?_;refine zab rfl k2 k1 rfl ?_;refine zbh ?_;rw [hini];refine zb4 ?_;rw [hd];refine zb4 ?_;exact uE
end Go.Proofs.YtdolbghhcijonaaGreat
namespace Go.Proofs.YtdolbghhcijonaaGreat
open Go Go.Am
set_option maxRecDepth 100000
theorem view_p {n nx ck d : Nat} {l : List (Nat × AV)} {hp : List (Nat × Nat × AObj)} {id sp : Nat} {cs : List AV} (hl : Am.look id hp = some (sp, .cells cs)) (hid : id < nx) : (st n l hp nx ck).view (d + 1) (.mptr id sp 0) = .vptr (cs.map ((st n l hp nx ck).view d)) := by
 rw [AS.view];have : (st n l hp nx ck).deref (.mptr id sp 0) = some cs := by
  rw [zmr];simp only [zim, hl];rw [if_pos ⟨trivial, hid⟩];rfl
 rw [this]
theorem view_l {n nx ck : Nat} {l : List (Nat × AV)} {hp : List (Nat × Nat × AObj)} (d : Nat) (x : AV) : (st n l hp nx ck).view d x = (st n [] hp nx ck).view d x := by
 have : ∀ (d : Nat) (x : AV), (st n l hp nx ck).view d x = (st n [] hp nx ck).view d x := by
  intro d
  induction d with
  | zero => intro x; rfl
  | succ d ih =>
   intro x;have ih' : (st n l hp nx ck).view d = (st n [] hp nx ck).view d := funext ih;cases x <;> simp only [AS.view, ih'] <;> rfl
 exact this d x
structure Ck (c : Ctl) (x sx m sm : Nat) (F : List AV) (ks : List (List UInt8)) (H : HS) : Prop where
 hx : Am.look x H.heap = some (sx, .cells (cC c ++ (.mapv m sm :: F)))
 hm : Am.look m H.heap = some (sm, .map (zl4 ks 0))
 lx : x < H.next
 lm : m < H.next
 ne : x ≠ m
theorem Ck.put {c : Ctl} {x sx m sm : Nat} {F : List AV} {ks ks' : List (List UInt8)} {H : HS} (h : Ck c x sx m sm F ks H) : Ck c x sx m sm F ks' ⟨zap m (sm, .map (zl4 ks' 0)) H.heap, H.next, H.clk⟩ :=
 ⟨by rw [za0, if_neg (fun e => h.ne e.symm)]; exact h.hx, by rw [za0, if_pos rfl], h.lx, h.lm, h.ne⟩
theorem Ck.new {c : Ctl} {x sx m sm : Nat} {F : List AV} {ks : List (List UInt8)} {H : HS} (h : Ck c x sx m sm F ks H) (o : Nat × AObj) : Ck c x sx m sm F ks ⟨(H.next, o) :: H.heap, H.next + 1, H.clk + 1⟩ :=
 ⟨(za5 h.lx).trans h.hx, (za5 h.lm).trans h.hm, y15 h.lx, y15 h.lm, h.ne⟩
-- (*pneumatic/control.checker).name
def ic108 : IC := sR [oM 4 (.mov (cI 0))]
 (.seq (sR [oT 7 1,
  oM 8 (.bin .eql (.t 7) (.c (.str []))),
  oT 9 8,
  ⟨(some 10), .mov (.t 1), some (9, false)⟩,
  ⟨(some 11), .idxstr (.t 10) (cI 0), some (9, false)⟩,
  ⟨(some 12), .bin .lss (.t 11) (.c (.int .u8 97)), some (9, false)⟩,
  oM 13 (.pick (.t 9) (.c (.bool true)) (.t 12)),
  oT 14 13,
  ⟨(some 15), .mov (.t 1), some (14, false)⟩,
  ⟨(some 16), .idxstr (.t 15) (cI 0), some (14, false)⟩,
  ⟨(some 17), .bin .gtr (.t 16) (.c (.int .u8 122)), some (14, false)⟩,
  oM 18 (.pick (.t 14) (.c (.bool true)) (.t 17)),
  oT 19 18,
  ⟨(some 20), .mov (.t 1), some (19, false)⟩,
  ⟨(some 21), .call (.c (.fn 129 [] [])) [(.t 20), (.c (.fn 130 [] []))], some (19, false)⟩,
  oM 22 (.pick (.t 19) (.c (.bool true)) (.t 21))]
 (.cond (.t 22) (sR [oM 4 (.mov (cI 3))]
 (.ret))
 (.skip)))
 (.seq (sR [oT 23 1,
  oM 24 (.len true (.t 23)),
  oM 25 (.bin .gtr (.t 24) (cI 24))]
 (.cond (.t 25) (sR [oM 4 (.mov (cI 17))]
 (.ret))
 (.skip)))
 (.seq (sR [oT 27 0,
  oM 28 (.nilchk (.t 27)),
  oF 29 5 28,
  oN 30 29,
  oT 31 1,
  oM 32 (.mapget .str (.int .i64 0) true (.t 30) (.t 31)),
  oT 26 32,
  oM 33 (.extract (.t 26) 0),
  oM 34 (.extract (.t 26) 1),
  oT 5 33,
  oT 6 34]
 (sR [oT 35 6]
 (.cond (.t 35) (sR [oM 4 (.mov (cI 7))]
 (.ret))
 (.skip))))
 (.seq (.region [oT 36 0,
  oM 37 (.nilchk (.t 36)),
  oF 38 5 37,
  oN 39 38,
  oT 40 1,
  oT 41 0,
  oM 42 (.nilchk (.t 41)),
  oF 43 5 42,
  oN 44 43,
  oM 45 (.mapget .int (.top) false (.t 44) (cI 0)),
  ⟨none, .mapset .str (.t 39) (.t 40) (.t 45), none⟩] (some [[], [0], [1], [2], [], [], [5], [6], [7], [8], [3, 4, 9, 9, 0, 1, 2, 3, 4, 5, 6, 7, 8, 9]]))
 (sR [oM 4 (.mov (cI 0))]
 (.ret))))))
theorem fn108 : env0.fn 108 = some ⟨46, ic108, [.t 4]⟩ := by kernel_rfl
set_option maxHeartbeats 2000000 in
set_option maxRecDepth 100000 in
theorem zw6 {w0 : World} {N0 : Nat} {c : Ctl} {x sx m sm : Nat} {F : List AV} {ks : List (List UInt8)} {s : List UInt8} (hw : wdB s = true) (hl : s.length <= 24) (hn : s ∉ ks) (H : HS) (hC : Ck c x sx m sm F ks H) :
  FT Tryz.prog w0 N0 108 [.mptr x sx 0, .str s] H (fun v H' => v = .int .i64 0 /\ H' = ⟨zap m (sm, .map (zl4 (ks ++ [s]) 0)) H.heap, H.next, H.clk⟩) := by
 obtain ⟨b, r, rfl⟩ : ∃ b r, s = b :: r := by
  cases s with
  | nil => cases hw
  | cons b r => exact ⟨b, r, rfl⟩
 unfold wdB at hw;rw [y0g] at hw;obtain ⟨hall, hsm⟩ := hw;have hsm : smB b.toNat = true := hsm;unfold smB at hsm;simp only [y0g, decide_eq_true_eq] at hsm;rw [y0h] at hall;have p129 := zpo (b :: r) hall;have hne : ¬ (b :: r) = [] := by simp
 have hge : (b :: r)[((0 : Nat) : Int).toNat]? = some b := rfl;obtain ⟨hx, hm, lx, lm, _⟩ := hC;have hgn := zvo _ _ 0 hn;have hsn := zqd _ (.int .i64 ((ks.length : Nat) : Int)) _ 0 hn;have hml := zrl ks 0;rw [show zl4 ks 0 ++ [(AV.str (b :: r), AV.int .i64 ((ks.length : Nat) : Int))] = zl4 (ks ++ [b :: r]) 0 by rw [zkc, y1b]] at hsn
 refine zbl env0_ok fn108 [(0, .mptr x sx 0), (1, .str (b :: r))] (y04 rfl) rfl ?_;unfold ic108;repeat (first | refine zb5 ?_ | refine za8 rfl ?_ | refine zay ?_ | refine zau ?_ | refine zbd ?_ | refine zfj rfl ?_ | refine zgy rfl ?_ | refine zan rfl ?_ | refine zae rfl ?_ | refine zb8 rfl rfl ?_ | refine zdb rfl rfl ?_ | refine zfg rfl rfl rfl ?_ | refine zio rfl ?_ | refine o_ixs rfl rfl (y11 _) (by assumption) ?_ | refine zal rfl rfl (by assumption) noC ?_ | refine za4 rfl rfl rfl (fun h => absurd (of_decide_eq_true h) (by omega)) fun _ => ?_)
 refine zab rfl hx lx rfl ?_;repeat (first | refine zan rfl ?_)
 refine o_mapget rfl rfl hm hgn ?_;repeat (first | refine zb5 ?_ | refine za8 rfl ?_ | refine zay ?_ | refine zau ?_ | refine zbd ?_ | refine zfj rfl ?_ | refine zan rfl ?_ | refine zae rfl ?_ | refine zhi rfl rfl ?_ | refine zgg env0_ok rfl rfl rfl ?_ | refine zio rfl ?_)
 refine zab rfl hx lx rfl ?_;refine zk5 ?_;refine zab rfl hx lx rfl ?_;refine o_maplen rfl rfl hm ?_;rw [hml];refine zrv rfl rfl rfl hm hsn ?_;refine zog ?_;exact zaa ⟨.inr rfl, _, rfl, rfl, rfl⟩
def F3 (x sx : Nat) : List AV := [.fn 104 [.mptr x sx 0] [], .fn 105 [.mptr x sx 0] [], .fn 106 [.mptr x sx 0] []]
theorem zrp {c : Ctl} {k : Nat} (h : nmE c k = 0) : wdB (nmd c k) = true /\ (nmd c k).length <= 24 /\ nmd c k ∉ (List.range k).map (nmd c) := by
 unfold nmE at h;split at h
 ·contradiction
 rename_i h1;split at h
 ·contradiction
 rename_i h2;split at h
 ·contradiction
 rename_i h3;refine ⟨by simpa using h1, by omega, fun hm => h3 ?_⟩;obtain ⟨i, hi, e⟩ := y0p.1 hm;unfold twB;rw [y2f];exact ⟨i, hi, by rw [e]; exact beq_self_eq_true _⟩
-- (*pneumatic/control.checker).signal
def ic109 : IC := sR [oM 4 (.mov (cI 0))]
 (sR [oT 8 0,
  oM 9 (.nilchk (.t 8)),
  oF 10 0 9,
  oF 11 2 10,
  oN 12 11,
  oT 13 1,
  oM 14 (.idxs 10 (.t 12) (.t 13)),
  oL 15 10 14,
  oM 5 (.alloc [.str [], .int .i64 0, .int .i64 0, .int .i64 0, .nils, .int .i64 0, .int .i64 0, .nils, .int .i64 0, .bool false]),
  ⟨none, .store 10 (.t 5) (.t 15), none⟩]
 (.seq (sR [oT 16 0,
  oF 17 0 5,
  oN 18 17,
  oM 19 (.call (.c (.fn 108 [] [])) [(.t 16), (.t 18)]),
  oT 6 19]
 (sR [oT 20 6,
  oM 21 (.bin .neq (.t 20) (cI 0))]
 (.cond (.t 21) (sR [oT 22 6,
  oT 4 22]
 (.ret))
 (.skip))))
 (.seq (sR [oF 23 1 5,
  oN 24 23,
  oM 25 (.bin .lss (.t 24) (cI 0)),
  oT 26 25,
  ⟨(some 27), .faddr 1 (.t 5), some (26, false)⟩,
  ⟨(some 28), .load none (.t 27), some (26, false)⟩,
  ⟨(some 29), .bin .geq (.t 28) (cI 3), some (26, false)⟩,
  oM 30 (.pick (.t 26) (.c (.bool true)) (.t 29))]
 (.cond (.t 30) (sR [oM 4 (.mov (cI 1))]
 (.ret))
 (.skip)))
 (.seq (.seq (.region [oF 31 2 5,
  oL 32 3 31,
  oT 33 0,
  oM 34 (.nilchk (.t 33)),
  oF 35 0 34,
  oL 36 5 35,
  oM 37 (.call (.c (.fn 46 [] [])) [(.t 36)]),
  oM 38 (.call (.c (.fn 85 [] [])) [(.t 32), (.t 37)]),
  oT 7 38] (some [[], [0], [], [2], [3], [4], [5], [1, 6, 6], [7, 7, 0, 1, 2, 3, 4, 5, 6, 7]]))
 (sR [oT 39 7,
  oM 40 (.bin .neq (.t 39) (cI 0))]
 (.cond (.t 40) (sR [oT 41 7,
  oT 4 41]
 (.ret))
 (.skip))))
 (.seq (.region [oT 42 0,
  oF 43 1 5,
  oN 44 43,
  oM 45 (.nilchk (.t 42)),
  oF 46 6 45,
  oM 47 (.idxarr 3 1 (.t 46) (.t 44)),
  oN 48 47,
  oT 49 1,
  oM 50 (.call (.t 48) [(.t 49)]),
  oT 4 50] (some [[], [], [1], [0], [3], [4, 2], [5], [], [6, 7], [8, 8, 0, 1, 2, 3, 4, 5, 6, 7, 8]]))
 (.ret))))))
theorem fn109 : env0.fn 109 = some ⟨51, ic109, [.t 4]⟩ := by kernel_rfl
set_option maxHeartbeats 8000000 in
set_option maxRecDepth 100000 in
theorem zwy {w0 : World} {N0 : Nat} {c : Ctl} {x sx m sm : Nat} (h : Ct c) {i : Nat} (hi : i < c.sg.length) (H : HS) (hC : Ck c x sx m sm (F3 x sx) ((List.range (fsC c + i)).map (nmd c)) H) :
  FT Tryz.prog w0 N0 109 [.mptr x sx 0, .int .i64 (i : Nat)] H (fun v H' => v = .int .i64 0 /\ Ck c x sx m sm (F3 x sx) ((List.range (fsC c + i + 1)).map (nmd c)) H' /\ Keep (fun j => j = m) H H') := by
 have hge := zdi hi;have hnm := zrp (h.nme (fsC c + i) (by unfold fsC; omega) (by unfold lnC; omega));rw [nmd_s (by omega), show fsC c + i - fsC c = i by omega] at hnm
 have hks : (List.range (fsC c + i + 1)).map (nmd c) = (List.range (fsC c + i)).map (nmd c) ++ [(sgA c.sg i).nm] := by
  rw [List.range_succ, y16, y1d, List.map_nil, nmd_s (by omega), show fsC c + i - fsC c = i by omega]
 rw [hks];generalize (List.range (fsC c + i)).map (nmd c) = ks at *;have p46 := zmo h.toSm;have p85 := zun (sgA c.sg i).on (h.x1 _ (zkr hi)).1 (lnC c);rw [zqy, h.on i hi, zhv] at p85;have hkd := h.kd i hi;have g0 := fun e K => gate104 h hi e K;have g1 := fun e K => zw5 h hi e K;have g2 := fun e K => timer106 h hi e K;have hv : ∀ (hp : List (Nat × Nat × AObj)) (nx ck : Nat), Am.look x hp = some (sx, .cells (cC c ++ (.mapv m sm :: F3 x sx))) -> x < nx -> ∃ K, ∀ l, (st 51 l hp nx ck).view VD (.mptr x sx 0) = .vptr (cC c ++ K) := fun hp nx ck hl hid => ⟨_, fun l => by
  rw [view_l, show VD = (VD - 1) + 1 from rfl, view_p hl hid, y16]
  rfl⟩
 refine zbl env0_ok fn109 [(0, .mptr x sx 0), (1, .int .i64 (i : Nat))] (y04 rfl) rfl ?_;unfold ic109;generalize sgA c.sg i = s at *;refine zk5 ?_;refine zab rfl hC.hx hC.lx rfl ?_;refine zfk ?_;refine zaj rfl rfl rfl rfl za3 rfl rfl ?_;rw [zc7];have hC1 := hC.new (H.clk, .cells (setAt 0 [.str [], .int .i64 0, .int .i64 0, .int .i64 0, .nils, .int .i64 0, .int .i64 0, .nils, .int .i64 0, .bool false] (List.take 10 (c10 s))));refine zk4 ?_;refine zab rfl za3 (y07 _) rfl ?_;refine zhh _ rfl rfl (zbk (zw6 hnm.1 hnm.2.1 hnm.2.2 ⟨_, _, _⟩ hC1)) (fun v H hF => fun m hm => absurd hm y0c) fun v H2 hF => ?_;obtain ⟨rfl, rfl⟩ := hF;have hC2 := hC1.put (ks' := ks ++ [s.nm]);have hK2 : Keep (fun j => j = m) H ⟨zap m (sm, .map (zl4 (ks ++ [s.nm]) 0)) ((H.next, H.clk, .cells (setAt 0 [.str [], .int .i64 0, .int .i64 0, .int .i64 0, .nils, .int .i64 0, .int .i64 0, .nils, .int .i64 0, .bool false] (List.take 10 (c10 s)))) :: H.heap), H.next + 1, H.clk + 1⟩ :=
  ⟨y0y _, y0y _, fun j hj hlt => by rw [za0, if_neg (fun e => hj e.symm), za5 hlt]⟩
 have hlo : Am.look H.next (zap m (sm, AObj.map (zl4 (ks ++ [s.nm]) 0)) ((H.next, H.clk, AObj.cells (setAt 0 [.str [], .int .i64 0, .int .i64 0, .int .i64 0, .nils, .int .i64 0, .int .i64 0, .nils, .int .i64 0, .bool false] (List.take 10 (c10 s)))) :: H.heap)) = some (H.clk, .cells (c10 s)) := by
  rw [za0, if_neg (by have := hC.lm; omega)]
  exact za3
 generalize zap m (sm, AObj.map (zl4 (ks ++ [s.nm]) 0)) ((H.next, H.clk, AObj.cells (setAt 0 [.str [], .int .i64 0, .int .i64 0, .int .i64 0, .nils, .int .i64 0, .int .i64 0, .nils, .int .i64 0, .bool false] (List.take 10 (c10 s)))) :: H.heap) = hp2 at *;have hxl := hC2.hx;have hxn := hC2.lx;refine zk5 ?_;refine zab rfl hlo (y07 _) rfl ?_;refine za4 rfl rfl rfl (fun h1 => absurd (of_decide_eq_true h1) (by omega)) fun _ => ?_;refine ggf2 ?_;refine zab rfl hlo (y07 _) rfl ?_;refine zgy rfl (za4 rfl rfl rfl (fun h1 => absurd (of_decide_eq_true h1) (by omega)) fun _ => ?_);refine ggf2 ?_;refine zc2 env0_ok _ (hL2 p46 p85) (fun g => Nat.beq g 46 || Nat.beq g 85) rfl rfl rfl ?_;repeat (first | refine zae rfl ?_)
 refine zbp rfl hlo (y07 _) rfl rfl ?_;refine zk5 ?_;refine zbp rfl hxl hxn rfl rfl ?_;refine ze6 ?_;have hxl : Am.look x hp2 = some (sx, .cells (cC c ++ (.mapv m sm :: F3 x sx))) := hxl;obtain ⟨K, hvK⟩ := hv hp2 (H.next + 1) (H.clk + 1) hxl hxn;rcases hkd with hk | hk | hk
 ·have g := g0 hk K;refine zc2 env0_ok _ (hL1 g) (fun _ => false) rfl rfl rfl ?_;refine zk4 ?_;refine zab rfl hlo (y07 _) rfl ?_;rw [hk];refine ze6 ?_;refine zab rfl hxl hxn rfl ?_;repeat (first | refine zan rfl ?_)
  refine zes rfl rfl (by show [AS.view _ VD (.mptr x sx 0), _] = _; rw [hvK]; rfl) zb6 (fun _ => rfl) ?_
  refine zog ?_;exact zaa ⟨.inr rfl, _, rfl, rfl, hC2, hK2⟩
 ·have g := g1 hk K;refine zc2 env0_ok _ (hL1 g) (fun _ => false) rfl rfl rfl ?_;refine zk4 ?_;refine zab rfl hlo (y07 _) rfl ?_;rw [hk];refine ze6 ?_;refine zab rfl hxl hxn rfl ?_;repeat (first | refine zan rfl ?_)
  refine zes rfl rfl (by show [AS.view _ VD (.mptr x sx 0), _] = _; rw [hvK]; rfl) zb6 (fun _ => rfl) ?_
  refine zog ?_;exact zaa ⟨.inr rfl, _, rfl, rfl, hC2, hK2⟩
 ·have g := g2 hk K;refine zc2 env0_ok _ (hL1 g) (fun _ => false) rfl rfl rfl ?_;refine zk4 ?_;refine zab rfl hlo (y07 _) rfl ?_;rw [hk];refine ze6 ?_;refine zab rfl hxl hxn rfl ?_;repeat (first | refine zan rfl ?_)
  refine zes rfl rfl (by show [AS.view _ VD (.mptr x sx 0), _] = _; rw [hvK]; rfl) zb6 (fun _ => rfl) ?_
  refine zog ?_;exact zaa ⟨.inr rfl, _, rfl, rfl, hC2, hK2⟩
end Go.Proofs.YtdolbghhcijonaaGreat
namespace Go.Proofs.YtdolbghhcijonaaGreat
open Go Go.Am
set_option maxRecDepth 100000
theorem lnT_inj {i j : Nat} (hi : i < 12) (hj : j < 12) (h : lnT i = lnT j) : i = j := by
 have key : ∀ i, i < 12 -> ∀ j, j < 12 -> lnT i = lnT j -> i = j := by decide
 exact key i hi j hj h
theorem nmd_new {c : Ctl} (h : Ct c) {k : Nat} (hk : k < 2 * c.act.toNat) : nmd c k ∉ (List.range k).map (nmd c) := fun hm => by
 obtain ⟨i, hi, e⟩ := y0p.1 hm;have hi := y0m.1 hi;have h6 := h.a6;rw [nmd_t hk, nmd_t (by omega)] at e;have := lnT_inj (by omega) (by omega) e;omega
theorem zm7 (f : Nat -> List UInt8) (k : Nat) : (List.range (k + 1)).map f = (List.range k).map f ++ [f k] := by
 rw [List.range_succ, y16, y1d, List.map_nil]
theorem zhy (l : List Int) : flat.flatL (l.map (AV.int .i64)) = true := by
 induction l with
 | nil => rfl
 | cons b l ih => exact ih
def b72_0 : IC := sR [oM 47 (.bin .lss (.t 46) (.t 45))]
 (.seq (.cond (.t 47) (.skip)
 (.exit 0))
 (.seq (.block 1 (sR [oT 48 46,
  oT 5 48]
 (.region [oT 49 4,
  oM 50 (.nilchk (.t 49)),
  oF 51 5 50,
  oN 52 51,
  oL 53 5 1,
  oT 54 5,
  oM 55 (.call (.c (.fn 107 [] [])) [(.t 53), (.t 54)]),
  oT 56 5,
  ⟨none, .mapset .str (.t 52) (.t 55) (.t 56), none⟩] (some [[], [0], [1], [2], [], [], [4, 5], [], [3, 6, 7, 6, 0, 1, 2, 3, 4, 5, 6, 7]]))))
 (.region [oM 57 (.bin .add (.t 46) (cI 1)),
  oT 46 57] none)))
def b72_2 : IC := sR [oM 62 (.bin .lss (.t 61) (.t 60))]
 (.seq (.cond (.t 62) (.skip)
 (.exit 2))
 (.seq (.block 3 (sR [oM 63 (.idxs 1 (.t 59) (.t 61)),
  oN 64 63,
  oT 7 64]
 (sR [oT 65 4,
  oT 66 7,
  oM 67 (.call (.c (.fn 108 [] [])) [(.t 65), (.t 66)]),
  oT 8 67]
 (sR [oT 68 8,
  oM 69 (.bin .neq (.t 68) (cI 0))]
 (.cond (.t 69) (sR [oT 70 8,
  oM 2 (.mov (.c (.top))),
  oT 3 70]
 (.ret))
 (.skip))))))
 (.region [oM 71 (.bin .add (.t 61) (cI 1)),
  oT 61 71] none)))
def b72_4 : IC := sR [oM 76 (.bin .lss (.t 75) (.t 74))]
 (.seq (.cond (.t 76) (.skip)
 (.exit 4))
 (.seq (.block 5 (sR [oT 77 75,
  oT 9 77]
 (sR [oT 78 4,
  oT 79 9,
  oM 80 (.call (.c (.fn 109 [] [])) [(.t 78), (.t 79)]),
  oT 10 80]
 (sR [oT 81 10,
  oM 82 (.bin .neq (.t 81) (cI 0))]
 (.cond (.t 82) (sR [oT 83 10,
  oM 2 (.mov (.c (.top))),
  oT 3 83]
 (.ret))
 (.skip))))))
 (.region [oM 84 (.bin .add (.t 75) (cI 1)),
  oT 75 84] none)))
-- pneumatic/control.check
def ic72 : IC := sR [oM 1 (.box (.t 0)),
  oM 2 (.mov (.c (.top))),
  oM 3 (.mov (cI 0))]
 (.seq (sR [oF 11 0 1,
  oN 12 11,
  oM 13 (.bin .lss (.t 12) (cI 1)),
  oT 14 13,
  ⟨(some 15), .faddr 0 (.t 1), some (14, false)⟩,
  ⟨(some 16), .load none (.t 15), some (14, false)⟩,
  ⟨(some 17), .bin .gtr (.t 16) (cI 6), some (14, false)⟩,
  oM 18 (.pick (.t 14) (.c (.bool true)) (.t 17))]
 (.cond (.t 18) (sR [oM 2 (.mov (.c (.top))),
  oM 3 (.mov (cI 2))]
 (.ret))
 (.skip)))
 (.seq (sR [oF 19 1 1,
  oN 20 19,
  oM 21 (.len false (.t 20)),
  oM 22 (.bin .gtr (.t 21) (cI 16)),
  oT 23 22,
  ⟨(some 24), .faddr 2 (.t 1), some (23, false)⟩,
  ⟨(some 25), .load none (.t 24), some (23, false)⟩,
  ⟨(some 26), .len false (.t 25), some (23, false)⟩,
  ⟨(some 27), .bin .gtr (.t 26) (cI 64), some (23, false)⟩,
  oM 28 (.pick (.t 23) (.c (.bool true)) (.t 27))]
 (.cond (.t 28) (sR [oM 2 (.mov (.c (.top))),
  oM 3 (.mov (cI 5))]
 (.ret))
 (.skip)))
 (sR [oL 29 5 1,
  oM 30 (.mkmap),
  oM 31 (.build [.int .i64 0, .nils, .nils, .nils, .nils, .top, .nilf, .nilf, .nilf] [(0, 5, (.t 29)), (5, 1, (.t 30))]),
  oM 32 (.box (.t 31)),
  oT 4 32]
 (sR [oT 33 4,
  oT 34 4,
  oM 35 (.mkfn 104 [(.t 34)] []),
  oT 36 4,
  oM 37 (.mkfn 105 [(.t 36)] []),
  oT 38 4,
  oM 39 (.mkfn 106 [(.t 38)] []),
  oM 40 (.build [.nilf, .nilf, .nilf] [(0, 1, (.t 35)), (1, 1, (.t 37)), (2, 1, (.t 39))]),
  oM 41 (.nilchk (.t 33)),
  oF 42 6 41,
  ⟨none, .store 3 (.t 42) (.t 40), none⟩]
 (.seq (sR [oF 43 0 1,
  oN 44 43,
  oM 45 (.bin .mul (cI 2) (.t 44)),
  oM 46 (.mov (cI 0))]
 (.block 0 (.loop b72_0)))
 (.seq (sR [oF 58 1 1,
  oN 59 58,
  oM 60 (.len false (.t 59)),
  oM 61 (.mov (cI 0))]
 (.block 2 (.loop b72_2)))
 (.seq (sR [oF 72 2 1,
  oN 73 72,
  oM 74 (.len false (.t 73)),
  oM 75 (.mov (cI 0))]
 (.block 4 (.loop b72_4)))
 (.seq (sR [oF 85 3 1,
  oN 86 85,
  oM 87 (.len false (.t 86)),
  oF 88 0 1,
  oN 89 88,
  oM 90 (.bin .neq (.t 87) (.t 89)),
  oT 91 90,
  ⟨(some 92), .faddr 4 (.t 1), some (91, false)⟩,
  ⟨(some 93), .load none (.t 92), some (91, false)⟩,
  ⟨(some 94), .len false (.t 93), some (91, false)⟩,
  ⟨(some 95), .faddr 0 (.t 1), some (91, false)⟩,
  ⟨(some 96), .load none (.t 95), some (91, false)⟩,
  ⟨(some 97), .bin .neq (.t 94) (.t 96), some (91, false)⟩,
  oM 98 (.pick (.t 91) (.c (.bool true)) (.t 97))]
 (.cond (.t 98) (sR [oM 2 (.mov (.c (.top))),
  oM 3 (.mov (cI 8))]
 (.ret))
 (.skip)))
 (.seq (sR [oF 99 3 1,
  oN 100 99,
  oF 101 4 1,
  oN 102 101,
  oM 103 (.bslice 1 2 [.nils, .nils] [(0, 1, (.t 100)), (1, 1, (.t 102))]),
  oM 104 (.call (.c (.fn 110 [] [])) [(.t 103)]),
  oM 105 (.mkfn 111 [] [(.t 1)]),
  oM 106 (.call (.c (.fn 84 [] [])) [(.t 104), (.t 105)])]
 (.cond (.t 106) (sR [oM 2 (.mov (.c (.top))),
  oM 3 (.mov (cI 6))]
 (.ret))
 (.skip)))
 (sR [oT 107 4,
  oM 108 (.nilchk (.t 107)),
  oF 109 5 108,
  oN 110 109,
  oT 2 110,
  oM 3 (.mov (cI 0))]
 (.ret)))))))))))
theorem fn72 : env0.fn 72 = some ⟨111, ic72, [.t 2, .t 3]⟩ := by kernel_rfl
set_option maxHeartbeats 8000000 in
set_option maxRecDepth 100000 in
theorem check72 {c : Ctl} (h : Ct c) : PF Tryz.prog 72 [.agg (cC c)] (.tup [.top, .int .i64 0]) := by
 have hn := zor c.ins;have hg := zel c.sg;have hpz := zfn c.pl;have hmz := zfn c.mi;have a1 := h.a1;have a6 := h.a6;have i16 := h.i16;have s16 := h.s16;have hpl := h.pl;have hmi := h.mi;have hw : IntKind.wrap .i64 (2 * c.act) = 2 * c.act := zbb _ (by omega) (by omega);have hfs : fsC c = 2 * c.act.toNat + c.ins.length := rfl;have p107 := fun k (hk : k < lnC c) => named107 h.toSm a1 hk;refine za6 env0_ok fn72 [(0, .agg (cC c))] (y04 rfl) rfl fun w0 N0 => ?_;unfold ic72;unfold cC vsN vsG vsI at *;repeat (first | refine zb5 ?_ | refine za8 rfl ?_ | refine zay ?_ | refine zau ?_ | refine zbd ?_ | refine zfj rfl ?_ | refine zgy rfl ?_ | refine zan rfl ?_ | refine zb0 rfl rfl ?_ | refine zbf rfl rfl rfl rfl ?_ | refine zae rfl ?_ | refine zb8 rfl rfl ?_ | refine zdb rfl rfl ?_ | refine zd6 rfl rfl ?_ | refine za4 rfl rfl rfl (fun h => absurd (of_decide_eq_true h) (by omega)) fun _ => ?_)
 refine o_mkmap ?_;refine ze6 ?_;rw [hw];refine zav (fun mm S => ∃ (k : Nat) (hp : List (Nat × Nat × AObj)) (nx ck : Nat), mm = 2 * c.act.toNat - k /\ k <= 2 * c.act.toNat /\ Ck c 2 2 1 1 (F3 2 2) ((List.range k).map (nmd c)) ⟨hp, nx, ck⟩ /\ Am.look 0 hp = some (0, .cells (cC c)) /\ S = st 111 [(1, .mptr 0 0 0), (4, .mptr 2 2 0), (45, .int .i64 (2 * c.act)), (46, .int .i64 (k : Nat))] hp nx ck) (2 * c.act.toNat)
  skp ⟨0, _, _, _, rfl, y0r _, ⟨rfl, rfl, by show 2 < 3; decide, by show 1 < 3; decide, by decide⟩, rfl, rfl⟩ ?_
 rintro mm S ⟨k, hp, nx, ck, rfl, hk, hC, h0, rfl⟩;have h0n : 0 < nx := Nat.lt_trans (by decide) hC.lx;unfold b72_0;refine zk4 ?_;refine za4 rfl rfl rfl (fun h3 => ?_) fun h3 => ?_
 ·have hlt : k < 2 * c.act.toNat := by have := of_decide_eq_true h3; omega
  have p := p107 k (by unfold lnC; omega);have hnew := nmd_new h hlt;have hgn := zqd _ (.int .i64 ((k : Nat) : Int)) _ 0 hnew;have hsn := zkc ((List.range k).map (nmd c)) 0 (nmd c k);rw [y06, y1v, y1b] at hsn;rw [<- hsn, <- zm7] at hgn;have w1 := za7 k (by omega);have hx := hC.hx;have hm := hC.hm;have lx := hC.lx;have lm := hC.lm;have hpu := hC.put (ks' := (List.range (k + 1)).map (nmd c));generalize nmd c k = nk at *;refine zog ?_;refine zc2 env0_ok _ (hL1 p) (fun g => Nat.beq g 107) rfl rfl rfl ?_;refine zk5 ?_;refine zab rfl hx lx rfl ?_;refine zbp rfl h0 h0n rfl rfl ?_;refine ze6 ?_;refine zrv rfl rfl rfl hm hgn ?_;refine zi2 ?_;rw [w1];exact zad (show 2 * c.act.toNat - (k + 1) < 2 * c.act.toNat - k by omega) skp ⟨k + 1, _, _, _, rfl, hlt, hpu, by rw [za0, if_neg (by decide)]; exact h0, rfl⟩
 have hke : k = 2 * c.act.toNat := by have := of_decide_eq_false h3; omega
 subst hke;refine zfk ?_;refine zbq ?_;refine zfk ?_;refine zab rfl h0 h0n rfl ?_;refine zi2 ?_;rw [hn];refine zav (fun mm S => ∃ (k : Nat) (hp : List (Nat × Nat × AObj)) (nx ck : Nat), mm = c.ins.length - k /\ k <= c.ins.length /\ Ck c 2 2 1 1 (F3 2 2) ((List.range (2 * c.act.toNat + k)).map (nmd c)) ⟨hp, nx, ck⟩ /\ Am.look 0 hp = some (0, .cells (cC c)) /\ S = st 111 [(1, .mptr 0 0 0), (4, .mptr 2 2 0), (59, vsN c.ins), (60, .int .i64 (c.ins.length : Nat)), (61, .int .i64 (k : Nat))] hp nx ck) c.ins.length
  skp ⟨0, _, _, _, rfl, y0r _, hC, h0, rfl⟩ ?_
 clear hC h0 h0n h3;rintro mm S ⟨k, hp, nx, ck, rfl, hk, hC, h0, rfl⟩;have h0n : 0 < nx := Nat.lt_trans (by decide) hC.lx;unfold b72_2 vsN;refine zk4 ?_;refine za4 rfl rfl rfl (fun h3 => ?_) fun h3 => ?_
 ·have hlt : k < c.ins.length := y1i.1 (of_decide_eq_true h3);have hge := n_get hlt;have hnf := zrp (h.nme (2 * c.act.toNat + k) (by omega) (by unfold lnC; omega));have hsn := zm7 (nmd c) (2 * c.act.toNat + k);rw [nmd_i (by omega) (by omega), show 2 * c.act.toNat + k - 2 * c.act.toNat = k by omega] at hnf hsn
  have w1 := za7 k (by omega);generalize nA c.ins k = s at *;have hpu := hC.put (ks' := (List.range (2 * c.act.toNat + k)).map (nmd c) ++ [s]);refine zfk ?_;refine zhh _ rfl rfl (zbk (zw6 hnf.1 hnf.2.1 hnf.2.2 ⟨_, _, _⟩ hC)) (fun v H hF => fun m hm => absurd hm y0c) fun v H2 hF => ?_;obtain ⟨rfl, rfl⟩ := hF;refine zk5 ?_;rw [w1];exact zad (show c.ins.length - (k + 1) < c.ins.length - k by omega) skp ⟨k + 1, _, _, _, rfl, hlt, by rw [<- y2b, hsn]; exact hpu, by rw [za0, if_neg (by decide)]; exact h0, rfl⟩
 have hke : k = c.ins.length := by
  have h4 : ¬ ((k : Nat) : Int) < (c.ins.length : Nat) := of_decide_eq_false h3;omega
 subst hke;refine zfk ?_;refine zbq ?_;refine zfk ?_;refine zab rfl h0 h0n rfl ?_;refine zi2 ?_;rw [hg];rw [<- hfs] at hC;refine zav (fun mm S => ∃ (k : Nat) (hp : List (Nat × Nat × AObj)) (nx ck : Nat), mm = c.sg.length - k /\ k <= c.sg.length /\ Ck c 2 2 1 1 (F3 2 2) ((List.range (fsC c + k)).map (nmd c)) ⟨hp, nx, ck⟩ /\ Am.look 0 hp = some (0, .cells (cC c)) /\ S = st 111 [(1, .mptr 0 0 0), (4, .mptr 2 2 0), (74, .int .i64 (c.sg.length : Nat)), (75, .int .i64 (k : Nat))] hp nx ck) c.sg.length
  skp ⟨0, _, _, _, rfl, y0r _, hC, h0, rfl⟩ ?_
 clear hC h0 h0n h3;rintro mm S ⟨k, hp, nx, ck, rfl, hk, hC, h0, rfl⟩;have h0n : 0 < nx := Nat.lt_trans (by decide) hC.lx;unfold b72_4;refine zk4 ?_;refine za4 rfl rfl rfl (fun h3 => ?_) fun h3 => ?_
 ·have hlt : k < c.sg.length := y1i.1 (of_decide_eq_true h3);have w1 := za7 k (by omega);refine zog ?_;refine zhh _ rfl rfl (zbk (zwy h hlt ⟨_, _, _⟩ hC)) (fun v H hF => fun m hm => absurd hm y0c) fun v H2 hF => ?_;obtain ⟨rfl, hC2, hK2⟩ := hF;refine zk5 ?_;rw [w1];exact zad (show c.sg.length - (k + 1) < c.sg.length - k by omega) skp ⟨k + 1, _, _, _, rfl, hlt, hC2, (hK2.look 0 (by decide) h0n).trans h0, rfl⟩
 have hke : k = c.sg.length := by
  have h4 : ¬ ((k : Nat) : Int) < (c.sg.length : Nat) := of_decide_eq_false h3;omega
 subst hke;refine zfk ?_;refine zbq ?_;repeat (first | refine zem (zau ?_))
 refine zc3 [(some (2, 2), cC c ++ [.top, .top, .top, .top])] [(0, 0, cC c)] [(1, .vptr (cC c)), (4, .mptr 0 0 0)] rfl (.cons h0 rfl .nil) (.cons hC.hx (.cons (.same rfl) (.cons (.same rfl) (.cons (.same rfl) (.cons (.same rfl) (.cons (.same rfl) (.cons .top (.cons .top (.cons .top (.cons .top .nil))))))))) .nil) (.cons rfl (.fptr rfl rfl) (.cons rfl (.mptr rfl) .nil)) ?_;have hcat := (zut [c.pl, c.mi] (by show 2 <= 1000; decide) (by show 1 <= c.pl.length + (c.mi.length + 0); omega) (by show c.pl.length + (c.mi.length + 0) <= 100000; omega))
 have p84 := zhx (P := outB c) (g := 111) (fi := []) (ca := [.vptr (cC c)]) (fun z => check111 h.toSm z) (fun S => ⟨rfl, rfl⟩) (fun S => rfl) [c.pl, c.mi].flatten (by show (c.pl ++ (c.mi ++ [])).length <= _; simp; omega)
 have hout : [c.pl, c.mi].flatten.any (outB c) = false := by
  rw [List.any_eq_false];intro z hz;have hb : ∀ l : List Int, plB c l = true -> z ∈ l -> ¬ outB c z = true := fun l hl hm => by
   unfold plB at hl;rw [y0h] at hl;have := hl z hm;simp only [y0g, decide_eq_true_eq] at this;unfold outB;simp;omega
  rw [y1c, y1c, List.flatten_nil, y0s] at hz;rcases y1n.1 hz with hz | hz
  ·exact hb _ hpl.2 hz
  ·exact hb _ hmi.2 hz
 rw [hout] at p84;unfold cC vsI at *;refine zi2 ?_;rw [hpz];refine za4 rfl rfl rfl (fun h => absurd hpl.1 (bne_iff_ne.1 h)) fun _ => ?_;refine zi2 ?_;rw [hmz];refine za4 rfl rfl rfl (fun h => absurd hmi.1 (bne_iff_ne.1 h)) fun _ => ?_;refine ze6 ?_;refine o_own rfl rfl hcat (zhy _) ?_;repeat (first | refine zrw rfl rfl ?_)
 refine zal rfl (by show [AS.view _ VD (.ms _ _ 1 0 _ none), AS.view _ VD (.fn 111 [] [.vptr _])] = _; rw [show VD = (VD - 1) + 1 from rfl, zds [c.pl, c.mi].flatten rfl rfl]; rfl) p84 (fun _ => rfl) ?_
 refine zk5 ?_;exact uE
-- pneumatic/control.Check
def ic45 : IC := sR [oM 1 (.box (.t 0)),
  oM 2 (.mov (cI 0))]
 (sR [oL 6 5 1,
  oM 7 (.call (.c (.fn 72 [] [])) [(.t 6)]),
  oT 5 7,
  oM 8 (.extract (.t 5) 0),
  oM 9 (.extract (.t 5) 1),
  oT 3 8,
  oT 4 9]
 (sR [oT 10 4,
  oT 2 10]
 (.ret)))
theorem fn45 : env0.fn 45 = some ⟨11, ic45, [.t 2]⟩ := by kernel_rfl
theorem zum {c : Ctl} (h : Ct c) : PF Tryz.prog 45 [.agg (cC c)] (.int .i64 0) := by
 have p := check72 h;refine za6 env0_ok fn45 [(0, .agg (cC c))] (y04 rfl) rfl fun w0 N0 => ?_;unfold ic45;unfold cC at *;refine ze6 ?_;exact uE
end Go.Proofs.YtdolbghhcijonaaGreat
