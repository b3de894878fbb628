/-
  THE FIRST STATE, its gates computed.; THE LAMP.; THE EXAMPLE HOLDS.; GATES THAT ARE COMPUTED TWICE; one signal that wants to change.; SIGNALS THAT DO NOT DEPEND ON AN INPUT.; slices.Index and slices.Contains of numbers.; A FUNCTION CALLED FOR EACH VARIABLE, a bound on the calls.; THE LINES THAT A SIGNAL USES: its signal is copied.; THE LINES THAT A SIGNAL USES.; THE LINES ON WHICH A LINE DEPENDS, 
-/
import Derived.Test.YtdolbghhcijonaaGreatNX8
namespace Go.Proofs.YtdolbghhcijonaaGreat
open Go Go.Am
set_option maxRecDepth 100000
theorem zf6 {id st : Nat} {cs : List AV} {l : List (Nat × Nat × List AV)} : fzl id st ((id, st, cs) :: l) = some cs := by simp [fzl]
theorem zc4 {id st i s : Nat} {cs : List AV} {l : List (Nat × Nat × List AV)} (h : i ≠ id) : fzl id st ((i, s, cs) :: l) = fzl id st l := by
 rw [fzl];rw [show Nat.beq i id = false from Bool.eq_false_iff.2 fun e => h (y14 e)]
 rfl
theorem OwL.rnI {l : List Int} {b : Nat} {w : AV} {id sp : Nat} {H : HS} {live : zit} {fz : List (Nat × Nat × List AV)} (h : OwL (zC l) b w id sp H) (hz : fzl id sp fz = some (zC l)) : RenW live fz w (vsI l) := by
 obtain ⟨cap, rfl⟩ := h.w;have := RenW.fms1 (live := live) (len := (zC l).length) (cap := cap) hz rfl;unfold zC at this ⊢;rw [y2d] at this;exact this
theorem OwL.rnB {l : List Bool} {b : Nat} {w : AV} {id sp : Nat} {H : HS} {live : zit} {fz : List (Nat × Nat × List AV)} (h : OwL (bC l) b w id sp H) (hz : fzl id sp fz = some (bC l)) : RenW live fz w (vsB l) := by
 obtain ⟨cap, rfl⟩ := h.w;have := RenW.fms1 (live := live) (len := (bC l).length) (cap := cap) hz rfl;unfold bC at this ⊢;rw [y2d] at this;exact this
theorem hM_zC : ∀ l : List Int, hasM.hasML (zC l) = false
 | [] => rfl
 | _ :: l => by
  show (false || hasM.hasML (zC l)) = false;rw [hM_zC l];rfl
def fz7 (s : Sta) (n t : Nat -> Nat) : List (Nat × Nat × List AV) := [(n 0, t 0, zC s.en), (n 1, t 1, bC s.va), (n 2, t 2, bC s.inp), (n 3, t 3, bC s.vals), (n 4, t 4, zC s.tms)]
theorem V7.rnC {s : Sta} {n t : Nat -> Nat} {w : Nat -> AV} {b : Nat} {H : HS} (h : V7 s n t w b H) {live : zit} (r : List (Nat × Nat × List AV)) : RnC live (fz7 s n t ++ r) [w 0, w 1, w 2, w 3, w 4] (cS s) := by
 have hne : ∀ i j, i < 5 -> j < 5 -> i ≠ j -> n i ≠ n j := fun i j hi hj h3 e => h3 (h.ij i j hi hj e);refine .cons (h.w0.rnI zf6) (.cons (h.w1.rnB ?_) (.cons (h.w2.rnB ?_) (.cons (h.w3.rnB ?_) (.cons (h.w4.rnI ?_) .nil))))
 ·show fzl _ _ (_ :: _ :: _) = _;rw [zc4 (hne 0 1 (by decide) (by decide) (by decide)), zf6]
 ·show fzl _ _ (_ :: _ :: _ :: _) = _;rw [zc4 (hne 0 2 (by decide) (by decide) (by decide)), zc4 (hne 1 2 (by decide) (by decide) (by decide)), zf6]
 ·show fzl _ _ (_ :: _ :: _ :: _ :: _) = _;rw [zc4 (hne 0 3 (by decide) (by decide) (by decide)), zc4 (hne 1 3 (by decide) (by decide) (by decide)), zc4 (hne 2 3 (by decide) (by decide) (by decide)), zf6]
 ·show fzl _ _ (_ :: _ :: _ :: _ :: _ :: _) = _;rw [zc4 (hne 0 4 (by decide) (by decide) (by decide)), zc4 (hne 1 4 (by decide) (by decide) (by decide)), zc4 (hne 2 4 (by decide) (by decide) (by decide)), zc4 (hne 3 4 (by decide) (by decide) (by decide)), zf6]
theorem V7.rnF {s : Sta} {n t : Nat -> Nat} {w : Nat -> AV} {b nx ck : Nat} {hp : List (Nat × Nat × AObj)} (h : V7 s n t w b ⟨hp, nx, ck⟩) {r : List (Nat × Nat × List AV)} (hr : RnF hp r) : RnF hp (fz7 s n t ++ r) :=
 .cons h.w0.lk (hM_zC _) (.cons h.w1.lk (zvp _) (.cons h.w2.lk (zvp _) (.cons h.w3.lk (zvp _) (.cons h.w4.lk (hM_zC _) hr))))
def zns (c : Ctl) : Nat -> List Bool
 | 0 => List.replicate c.sg.length false
 | k + 1 => (zns c k).set k (sgA c.sg k).ini
theorem zn0 (c : Ctl) : ∀ k, (zns c k).length = c.sg.length
 | 0 => y27 ..
 | k + 1 => by rw [zns, y24, zn0 c k]
set_option maxHeartbeats 4000000 in
set_option maxRecDepth 100000 in
theorem begin38 {c : Ctl} (h : Ct c) (hs : Ss c (zud c (zns c c.sg.length))) : PF Tryz.prog 38 [.agg (cC c)] (.agg (cS (zbn c (zud c (zns c c.sg.length))))) := by
 have hg := zel c.sg;have s16 := h.s16;have p63 := zst h hs;refine za6 env0_ok fn38 [(0, .agg (cC c))] (y04 rfl) rfl fun w0 N0 => ?_;unfold ic38;refine zk5 ?_;refine reg38 h rfl (by decide) (fun t v ht => KeepA.get (.cons rfl (.cons rfl .nil)) (t, v) ht) ?_;intro hp nx ck n t w nb sb hb1 hb2 ho hB hV hne;have hl0 : Am.look 0 hp = some (0, .cells (cC c)) := ho 0 (by decide);have hl1 : Am.look 1 hp = some (1, .cells zf1) := ho 1 (by decide);refine zog ?_;refine zav (fun mm S => ∃ (i : Nat) (hp' : List (Nat × Nat × AObj)), mm = c.sg.length - i /\ i <= c.sg.length /\ V7 (zud c (zns c i)) n t w 2 ⟨hp', nx, ck⟩ /\ Am.look 0 hp' = some (0, .cells (cC c)) /\ Am.look 1 hp' = some (1, .cells zf1) /\ Am.look nb hp' = some (sb, .cells [w 0, w 1, w 2, w 3, w 4]) /\ S = st 44 [(1, .mptr 0 0 0), (2, .mptr 1 1 0), (3, .mptr nb sb 0), (4, .int .i64 (i : Nat))] hp' nx ck) c.sg.length
  skp ⟨0, hp, rfl, y0r _, hV, hl0, hl1, hB, rfl⟩ ?_
 rintro mm S ⟨i, hp', rfl, hi, hVi, h0, h1, hBi, rfl⟩;unfold b38_0;refine zk4 ?_;refine zab rfl h0 (by omega) rfl ?_;unfold vsG;repeat (first | refine zdb rfl rfl ?_)
 rw [hg];refine za4 rfl rfl rfl (fun h3 => ?_) fun h3 => ?_
 ·have hlt : i < c.sg.length := y1i.1 (of_decide_eq_true h3);have hge := zdi hlt;have w1 := za7 i (by omega);have hvl := zn0 c i;obtain ⟨cap, hw3⟩ := hVi.w3.w;have hl3 : Am.look (n 3) hp' = some (t 3, .cells (bC (zns c i))) := hVi.w3.lk;have hn3 : 2 <= n 3 := hVi.w3.lo;have hn3b := hne 3 (by decide);have ez : 0 + ((i : Nat) : Int).toNat * 1 = i := by simp
  repeat (first | refine zb5 ?_ | refine zay ?_ | refine zau ?_ | refine zbc ?_ | refine zbd ?_ | refine zgi rfl ?_ | refine zae rfl ?_ | refine zgg env0_ok rfl rfl rfl ?_)
  refine zab rfl hBi hb2 (ws := [w 4]) (v := .ms (n 3) (t 3) 1 0 c.sg.length cap) (by rw [hw3, zd0]; show AV.ms _ _ _ _ (zns c i).length _ :: _ = _; rw [hvl]) ?_
  refine zk4 ?_;refine zab rfl h0 (by omega) rfl ?_;unfold vsG;refine ze6 ?_;rw [ez];refine zgc (id := n 3) (sp := t 3) (off := i) (cs := bC (zns c i)) rfl rfl rfl hl3 (by rw [zd0]; omega) rfl ?_;rw [zld];refine zi2 ?_;rw [w1];refine zad (show c.sg.length - (i + 1) < c.sg.length - i by omega) skp ⟨i + 1, _, rfl, hlt, hVi.put3 (v := zns c (i + 1)) (by show (zns c (i + 1)).length = (zns c i).length; rw [zn0, hvl]), by rw [za0, if_neg (by omega)]; exact h0, by rw [za0, if_neg (by omega)]; exact h1, by rw [za0, if_neg hn3b]; exact hBi, rfl⟩
 ·have hie : i = c.sg.length := by
   have h4 : ¬ ((i : Nat) : Int) < (c.sg.length : Nat) := of_decide_eq_false h3;omega
  subst hie;refine zfk ?_;refine zbq ?_;have hlo : ∀ i, i < 5 -> 2 <= n i := fun i hi => by
   match i, hi with
   | 0, _ => exact hVi.w0.lo
   | 1, _ => exact hVi.w1.lo
   | 2, _ => exact hVi.w2.lo
   | 3, _ => exact hVi.w3.lo
   | 4, _ => exact hVi.w4.lo
  have hbs : cS (zud c (zns c c.sg.length)) = cS (zud c (zns c c.sg.length)) := rfl;generalize zud c (zns c c.sg.length) = s at *;refine zem (zau ?_);refine zc3 [(some (1, 1), zf1), (some (nb, sb), cS s)] (fz7 s n t ++ [(0, 0, cC c)]) [(1, .vptr (cC c)), (2, .mptr 0 0 0), (3, .mptr 1 0 0)] ?_ (hVi.rnF (.cons h0 rfl .nil)) (.cons h1 (.keep rfl) (.cons hBi (hVi.rnC _) .nil)) (.cons rfl (.fptr ?_ rfl) (.cons rfl (.mptr rfl) (.cons rfl (.mptr rfl) .nil))) ?_
  ·show (!zt2 1 [n 0, n 1, n 2, n 3, n 4, 0] && (!zt2 nb [1, n 0, n 1, n 2, n 3, n 4, 0] && true)) = true;have e0 := hlo 0 (by decide);have e1 := hlo 1 (by decide);have e2 := hlo 2 (by decide);have e3 := hlo 3 (by decide);have e4 := hlo 4 (by decide);have f0 := hne 0 (by decide);have f1 := hne 1 (by decide);have f2 := hne 2 (by decide);have f3 := hne 3 (by decide);have f4 := hne 4 (by decide);rw [zq4 (fun h => by simp only [y0f, y0c, or_false] at h; omega), zq4 (fun h => by simp only [y0f, y0c, or_false] at h; omega)];rfl
  ·show fzl 0 0 (_ :: _ :: _ :: _ :: _ :: _ :: _) = _;have e0 := hlo 0 (by decide);have e1 := hlo 1 (by decide);have e2 := hlo 2 (by decide);have e3 := hlo 3 (by decide);have e4 := hlo 4 (by decide);rw [zc4 (by omega), zc4 (by omega), zc4 (by omega), zc4 (by omega), zc4 (by omega), zf6];rfl
  refine zc3 [(some (0, 0), zf1)] [(1, 0, cS s)] [(1, .vptr (cC c)), (2, .mptr 0 0 0), (3, .vptr (cS s))] rfl (.cons rfl rfl .nil) (.cons rfl (.keep rfl) .nil) (.cons rfl (.same rfl) (.cons rfl (.mptr rfl) (.cons rfl (.fptr rfl rfl) .nil))) ?_;refine zfk ?_;exact uE
set_option maxRecDepth 100000
def lampC : Ctl := ⟨1, [[115, 116, 97, 114, 116], [115, 116, 111, 112]], [⟨[103, 111], 1, .nd 1 2 [], .nd 1 3 [], 0, false⟩, ⟨[108, 97, 109, 112], 0, .nd 2 0 [.nd 1 4 []], .nd 0 0 [], 0, false⟩], [4], [5]⟩
def lampS : List AV := (lampC.sg.map c10).flatten
-- pneumatic/pneumaticlaw28.Lamp$1
def ic37 : IC := sR [oM 2 (.alloc [.int .i64 0, .int .i64 0, .nils])]
 (sR [oT 3 0,
  oM 4 (.build [.int .i64 0, .int .i64 0, .nils] [(0, 1, (cI 1)), (1, 1, (.t 3))]),
  ⟨none, .store 3 (.t 2) (.t 4), none⟩]
 (.ret))
theorem fn37 : env0.fn 37 = some ⟨5, ic37, [.cell 2 (some 3)]⟩ := by kernel_rfl
theorem l37 (z : Int) : PF Tryz.prog 37 [.int .i64 z] (.agg [.int .i64 1, .int .i64 z, .vs []]) := by
 refine za6 env0_ok fn37 [(0, .int .i64 z)] (y04 rfl) rfl fun w0 N0 => ?_;unfold ic37;repeat (first | refine zb5 ?_ | refine za8 rfl ?_ | refine zay ?_ | refine zau ?_ | refine zby ?_ | refine zan rfl ?_ | refine zaj rfl rfl rfl rfl rfl rfl rfl ?_ | refine zce ?_ | refine zi8 rfl rfl ?_)
 exact uE
theorem lamp_beg : zbn lampC (zud lampC (zns lampC lampC.sg.length)) = ⟨[0], [false], [false, false], [false, true], [0, 0]⟩ := by kernel_rfl
-- pneumatic/pneumaticlaw28.Lamp
def ic19 : IC := sR [oM 4 (.alloc [.int .i64 0, .nils, .nils, .nils, .nils]),
  oM 5 (.alloc [.nils, .nils, .nils, .nils, .nils])]
 (sR [oM 6 (.mov (.c (.fn 37 [] [])))]
 (sR [oM 9 (.bslice 1 2 [.str [], .str []] [(0, 1, (.c (.str [115, 116, 97, 114, 116]))), (1, 1, (.c (.str [115, 116, 111, 112])))]),
  oT 10 6,
  oM 11 (.call (.t 10) [(cI 2)]),
  oT 12 6,
  oM 13 (.call (.t 12) [(cI 3)]),
  oM 14 (.build [.str [], .int .i64 0, .int .i64 0, .int .i64 0, .nils, .int .i64 0, .int .i64 0, .nils, .int .i64 0, .bool false] [(0, 1, (.c (.str [103, 111]))), (1, 1, (cI 1)), (2, 3, (.t 11)), (5, 3, (.t 13))]),
  oT 15 6,
  oM 16 (.call (.t 15) [(cI 4)]),
  oM 17 (.bslice 3 1 [.int .i64 0, .int .i64 0, .nils] [(0, 3, (.t 16))]),
  oM 18 (.build [.int .i64 0, .int .i64 0, .nils] [(0, 1, (cI 2)), (2, 1, (.t 17))]),
  oM 19 (.build [.str [], .int .i64 0, .int .i64 0, .int .i64 0, .nils, .int .i64 0, .int .i64 0, .nils, .int .i64 0, .bool false] [(0, 1, (.c (.str [108, 97, 109, 112]))), (2, 3, (.t 18))]),
  oM 20 (.bslice 10 2 [.str [], .int .i64 0, .int .i64 0, .int .i64 0, .nils, .int .i64 0, .int .i64 0, .nils, .int .i64 0, .bool false, .str [], .int .i64 0, .int .i64 0, .int .i64 0, .nils, .int .i64 0, .int .i64 0, .nils, .int .i64 0, .bool false] [(0, 10, (.t 14)), (10, 10, (.t 19))]),
  oM 21 (.bslice 1 1 [.int .i64 0] [(0, 1, (cI 4))]),
  oM 22 (.bslice 1 1 [.int .i64 0] [(0, 1, (cI 5))]),
  oM 23 (.build [.int .i64 0, .nils, .nils, .nils, .nils] [(0, 1, (cI 1)), (1, 1, (.t 9)), (2, 1, (.t 20)), (3, 1, (.t 21)), (4, 1, (.t 22))]),
  oM 7 (.alloc [.int .i64 0, .nils, .nils, .nils, .nils]),
  ⟨none, .store 5 (.t 7) (.t 23), none⟩]
 (sR [oL 24 5 7,
  oM 25 (.call (.c (.fn 38 [] [])) [(.t 24)]),
  oM 8 (.alloc [.nils, .nils, .nils, .nils, .nils]),
  ⟨none, .store 5 (.t 8) (.t 25), none⟩]
 (sR [oT 26 0,
  oT 27 1,
  oM 28 (.bslice 1 2 [.bool false, .bool false] [(0, 1, (.t 26)), (1, 1, (.t 27))]),
  oF 29 2 8,
  ⟨none, .store 1 (.t 29) (.t 28), none⟩]
 (.seq (.region [oL 30 5 7,
  oL 31 5 8,
  ⟨none, .store 5 (.t 4) (.t 30), none⟩,
  ⟨none, .store 5 (.t 5) (.t 31), none⟩] (some [[], [], [0, 0], [1, 2, 0, 1, 2]]))
 (.ret))))))
theorem fn19 : env0.fn 19 = some ⟨32, ic19, [.cell 4 (some 5), .cell 5 (some 5)]⟩ := by kernel_rfl
set_option maxHeartbeats 4000000 in
set_option maxRecDepth 100000 in
theorem lamp19 (hC : Ct lampC) (hs : Ss lampC (zud lampC (zns lampC 2))) : PF Tryz.prog 19 [.bool true, .bool false] (.tup [.agg (cC lampC), .agg (cS ⟨[0], [false], [true, false], [false, true], [0, 0]⟩)]) := by
 have p38 := begin38 hC hs;refine za6 env0_ok fn19 [(0, .bool true), (1, .bool false)] (y04 rfl) rfl fun w0 N0 => ?_;unfold ic19;repeat (first | refine zb5 ?_ | refine za8 rfl ?_ | refine zay ?_ | refine zau ?_ | refine zan rfl ?_ | refine zce ?_ | refine zcw rfl rfl ?_)
 refine zes rfl rfl rfl (l37 2) noC ?_;repeat (first | refine zan rfl ?_)
 refine zes rfl rfl rfl (l37 3) noC ?_;refine ggi0 ?_;refine zes rfl rfl rfl (l37 4) noC ?_;refine ggi0 ?_;refine zc3 [(some (0, 0), [.int .i64 0, .nils, .nils, .nils, .nils]), (some (1, 1), zf1), (some (4, 4), lampS), (some (7, 7), [.int .i64 1, vsN lampC.ins, .ms 2 0 10 0 2 (some 2), vsI [4], vsI [5]])] [(2, 2, [.str [115, 116, 97, 114, 116], .str [115, 116, 111, 112]]), (3, 3, [.int .i64 1, .int .i64 4, .vs []]), (5, 5, [.int .i64 4]), (6, 6, [.int .i64 5])] [(0, .bool true), (1, .bool false), (4, .mptr 0 0 0), (5, .mptr 1 0 0), (7, .mptr 3 0 0)] rfl (.cons rfl rfl (.cons rfl rfl (.cons rfl rfl (.cons rfl rfl .nil))))
  (.cons rfl (.keep rfl) (.cons rfl (.keep rfl) (.cons rfl (by repeat (first | exact .nil | refine .cons (.same rfl) ?_ | refine .cons .nilvs ?_ | refine .cons (.fms (xs := [[.int .i64 1, .int .i64 4, .vs []]]) rfl rfl (fun x hx => by obtain rfl := y0o.1 hx; rfl) ⟨[], rfl⟩) ?_)) (.cons rfl (.cons (.same rfl) (.cons (.fms1 (vs := [.str [115, 116, 97, 114, 116], .str [115, 116, 111, 112]]) rfl rfl) (.cons (.ms rfl) (.cons (.fms1 (vs := [.int .i64 4]) rfl rfl) (.cons (.fms1 (vs := [.int .i64 5]) rfl rfl) .nil))))) .nil)))) (.cons rfl (.same rfl) (.cons rfl (.same rfl) (.cons rfl (.mptr rfl) (.cons rfl (.mptr rfl) (.cons rfl (.mptr rfl) .nil))))) ?_
 refine zc3 [(some (0, 0), [.int .i64 0, .nils, .nils, .nils, .nils]), (some (1, 0), zf1), (some (3, 0), cC lampC)] [(2, 0, lampS)] [(0, .bool true), (1, .bool false), (4, .mptr 0 0 0), (5, .mptr 1 0 0), (7, .mptr 2 0 0)] rfl (.cons rfl rfl .nil)
  (.cons rfl (.keep rfl) (.cons rfl (.keep rfl) (.cons rfl (.cons (.same rfl) (.cons (.same rfl) (.cons (.fms (xs := lampC.sg.map c10) rfl rfl (fun x hx => by obtain ⟨_, _, rfl⟩ := y0p.1 hx; rfl) ⟨[], rfl⟩) (.cons (.same rfl) (.cons (.same rfl) .nil))))) .nil))) (.cons rfl (.same rfl) (.cons rfl (.same rfl) (.cons rfl (.mptr rfl) (.cons rfl (.mptr rfl) (.cons rfl (.mptr rfl) .nil))))) ?_
 refine zc3 [(some (0, 0), [.int .i64 0, .nils, .nils, .nils, .nils]), (some (1, 0), zf1)] [(2, 0, cC lampC)] [(0, .bool true), (1, .bool false), (4, .mptr 0 0 0), (5, .mptr 1 0 0), (7, .vptr (cC lampC))] rfl (.cons rfl rfl .nil)
  (.cons rfl (.keep rfl) (.cons rfl (.keep rfl) .nil)) (.cons rfl (.same rfl) (.cons rfl (.same rfl) (.cons rfl (.mptr rfl) (.cons rfl (.mptr rfl) (.cons rfl (.fptr rfl rfl) .nil))))) ?_
 repeat (first | refine zb5 ?_ | refine za8 rfl ?_ | refine zay ?_ | refine zau ?_ | refine zan rfl ?_ | refine zbf rfl rfl rfl rfl ?_ | refine zaj rfl rfl rfl rfl rfl rfl rfl ?_ | refine zae rfl ?_ | refine zce ?_ | refine zcw rfl rfl ?_ | refine zal rfl rfl (by assumption) noC ?_)
 rw [show zbn lampC (zud lampC (zns lampC lampC.sg.length)) = ⟨[0], [false], [false, false], [false, true], [0, 0]⟩ from lamp_beg]
 refine znq env0_ok [] (fun _ hx => absurd hx y0c) (fun _ => false) (fun i => i == 2) (fun i => i == 0 || i == 1) (fun i h1 h2 => by simp at h1 h2; omega) rfl rfl rfl ?_;refine ggi1 ?_;exact uE
set_option maxRecDepth 100000
theorem zf9 {P : Nat -> Sig -> Prop} (h0 : P 0 ⟨[103, 111], 1, .nd 1 2 [], .nd 1 3 [], 0, false⟩) (h1 : P 1 ⟨[108, 97, 109, 112], 0, .nd 2 0 [.nd 1 4 []], .nd 0 0 [], 0, false⟩) : ∀ i, i < lampC.sg.length -> P i (sgA lampC.sg i)
 | 0, _ => h0
 | 1, _ => h1
 | i + 2, h => absurd h (by show ¬ i + 2 < 2; omega)
theorem zn4 {P : Sig -> Prop} (h0 : P ⟨[103, 111], 1, .nd 1 2 [], .nd 1 3 [], 0, false⟩) (h1 : P ⟨[108, 97, 109, 112], 0, .nd 2 0 [.nd 1 4 []], .nd 0 0 [], 0, false⟩) : ∀ s, s ∈ lampC.sg -> P s := fun s hs => by
 rcases y0f.1 hs with rfl | hs
 ·exact h0
 ·obtain rfl := y0o.1 hs;exact h1
theorem lampCt : Ct lampC where
 a0 := by decide
 a6 := by decide
 i := by decide
 s := by decide
 ni := fun i h => by
  have h : i < 2 := h;obtain rfl | rfl : i = 0 \/ i = 1 := by omega
  ·decide
  ·decide
 ns := zn4 (by decide) (by decide)
 x1 := zn4 ⟨.nd (by decide) (fun _ h => absurd h y0c), .nd (by decide) (fun _ h => absurd h y0c)⟩ ⟨.nd (by decide) (fun y h => by obtain rfl := y0o.1 h; exact .nd (by decide) (fun _ h => absurd h y0c)), .nd (by decide) (fun _ h => absurd h y0c)⟩
 p1 := by decide
 m1 := by decide
 a1 := by decide
 i16 := by decide
 s16 := by decide
 nme := fun k h1 h2 => by
  have h1 : 2 <= k := h1;have h2 : k < 6 := h2;obtain rfl | rfl | rfl | rfl : k = 2 \/ k = 3 \/ k = 4 \/ k = 5 := by omega
  ·show nmE lampC 2 = 0; kernel_rfl
  ·show nmE lampC 3 = 0; kernel_rfl
  ·show nmE lampC 4 = 0; kernel_rfl
  ·show nmE lampC 5 = 0; kernel_rfl
 kd := zf9 (P := fun _ s => s.kd = 0 \/ s.kd = 1 \/ s.kd = 2) (.inr (.inl rfl)) (.inl rfl)
 on := zf9 (P := fun _ s => zd7 s.on (lnC lampC) = 0) (by kernel_rfl) (by kernel_rfl)
 off := zf9 (P := fun _ s => s.kd = 1 -> zd7 s.off (lnC lampC) = 0) (fun _ => by kernel_rfl) (fun e => absurd e (by decide))
 lt := zf9 (P := fun i s => s.kd = 0 -> ziu lampC i = false) (fun e => absurd e (by decide)) (fun _ => by kernel_rfl)
 tm := zf9 (P := fun _ s => s.kd = 2 -> 1 <= s.dl /\ s.dl <= 1000000) (fun e => absurd e (by decide)) (fun e => absurd e (by decide))
 zf := zf9 (P := fun _ s => s.kd ≠ 1 -> zxp s.off = true /\ s.ini = false) (fun e => absurd rfl e) (fun _ => ⟨by kernel_rfl, rfl⟩)
 d0 := zf9 (P := fun _ s => s.kd ≠ 2 -> s.dl = 0) (fun _ => rfl) (fun _ => rfl)
 pl := ⟨rfl, by kernel_rfl⟩
 mi := ⟨rfl, by kernel_rfl⟩
 lg := zn4 ⟨by kernel_rfl, by kernel_rfl⟩ ⟨by kernel_rfl, by kernel_rfl⟩
theorem lampSs (i0 i1 v0 v1 : Bool) : Ss lampC ⟨[0], [false], [i0, i1], [v0, v1], [0, 0]⟩ where
 e := by show 1 <= 40; decide
 v := by show 1 <= 40; decide
 i := by show 2 <= 200; decide
 b := by show 2 <= 200; decide
 t := by show 2 <= 200; decide
 sh := ⟨rfl, rfl, rfl, rfl, rfl⟩
 e4 := fun j hj => by
  have hj : j < 1 := hj;obtain rfl : j = 0 := by omega
  show (0 : Int) <= 0 /\ (0 : Int) < 4;decide
 t3 := fun j hj => by
  have hj : j < 2 := hj;obtain rfl | rfl : j = 0 \/ j = 1 := by omega
  ·show (0 : Int) <= 0 /\ (0 : Int) < 3; decide
  ·show (0 : Int) <= 0 /\ (0 : Int) < 3; decide
 tk := fun j hj => by
  have hj : j < 2 := hj;obtain rfl | rfl : j = 0 \/ j = 1 := by omega
  ·rfl
  ·rfl
def zl8 : Sta := ⟨[0], [false], [true, false], [false, true], [0, 0]⟩
theorem zrj : itS lampC zl8 1 = ⟨[0], [false], [true, false], [true, true], [0, 0]⟩ := by kernel_rfl
theorem lamp_it2 : itS lampC zl8 2 = ⟨[0], [false], [true, false], [true, false], [0, 0]⟩ := by kernel_rfl
theorem lamp_it3 : itS lampC zl8 3 = ⟨[0], [false], [true, false], [true, false], [0, 0]⟩ := by kernel_rfl
theorem lamp_bad : badL lampC zl8 3 = [] := by kernel_rfl
theorem lamp8 : PF Tryz.prog 8 [.agg (cC lampC), .agg (cS zl8)] (.tup [.agg (cS ⟨[0], [false], [true, false], [true, false], [0, 0]⟩), .vs [], .int .i64 0]) := by
 have n0 : itS lampC zl8 1 ≠ itS lampC zl8 0 := fun e => by
  rw [zrj] at e;exact absurd (congrArg Sta.vals e) (by decide)
 have n1 : itS lampC zl8 2 ≠ itS lampC zl8 1 := fun e => by
  rw [zrj, lamp_it2] at e;exact absurd (congrArg Sta.vals e) (by decide)
 refine zqe lampCt (lampSs true false false true) (fun n _ h2 h3 => ?_) fun h => absurd (lamp_it3.trans lamp_it2.symm) (h 2 (by decide));obtain rfl : n = 2 := by
  rcases y20 n 2 with hlt | hge
  ·obtain rfl | rfl : n = 0 \/ n = 1 := by omega
   ·exact absurd h3 n0
   ·exact absurd h3 n1
  ·refine y1j fun hne => ?_;exact h2 2 (by omega) (lamp_it3.trans lamp_it2.symm)
 rw [lamp_it2, show badL lampC zl8 (2 + 1) = _ from lamp_bad]
 rfl
-- pneumatic/pneumatictop.tryLamp
def ic6 : IC := sR [oM 0 (.mov (.c (.bool false)))]
 (sR [oM 7 (.call (.c (.fn 19 [] [])) [(.c (.bool true)), (.c (.bool false))]),
  oT 6 7,
  oM 8 (.extract (.t 6) 0),
  oM 9 (.extract (.t 6) 1),
  oM 1 (.alloc [.int .i64 0, .nils, .nils, .nils, .nils]),
  oM 2 (.alloc [.nils, .nils, .nils, .nils, .nils]),
  ⟨none, .store 5 (.t 1) (.t 8), none⟩,
  ⟨none, .store 5 (.t 2) (.t 9), none⟩]
 (sR [oL 11 5 1,
  oL 12 5 2,
  oM 13 (.call (.c (.fn 8 [] [])) [(.t 11), (.t 12)]),
  oT 10 13,
  oM 14 (.extract (.t 10) 0),
  oM 15 (.extract (.t 10) 1),
  oM 16 (.extract (.t 10) 2),
  oM 3 (.alloc [.nils, .nils, .nils, .nils, .nils]),
  ⟨none, .store 5 (.t 3) (.t 14), none⟩,
  oT 4 15,
  oT 5 16]
 (sR [oT 17 5,
  oM 18 (.bin .eql (.t 17) (cI 0)),
  oT 19 18,
  ⟨(some 20), .mov (.t 4), some (19, true)⟩,
  ⟨(some 21), .len false (.t 20), some (19, true)⟩,
  ⟨(some 22), .bin .eql (.t 21) (cI 0), some (19, true)⟩,
  oM 23 (.pick (.t 19) (.t 22) (.c (.bool false))),
  oT 24 23,
  ⟨(some 25), .faddr 3 (.t 3), some (24, true)⟩,
  ⟨(some 26), .load none (.t 25), some (24, true)⟩,
  ⟨(some 27), .bslice 1 2 [.bool false, .bool false] [(0, 1, (.c (.bool true))), (1, 1, (.c (.bool false)))], some (24, true)⟩,
  ⟨(some 28), .call (.c (.fn 20 [] [])) [(.t 26), (.t 27)], some (24, true)⟩,
  oM 29 (.pick (.t 24) (.t 28) (.c (.bool false))),
  oT 0 29]
 (.ret))))
theorem fn6 : env0.fn 6 = some ⟨30, ic6, [.t 0]⟩ := by kernel_rfl
set_option maxRecDepth 100000 in
theorem tryLamp6 : PF Tryz.prog 6 [] (.bool true) := by
 have p19 := lamp19 lampCt (lampSs false false false false);have p8 := lamp8;have p20 := zms [true, false] [true, false] (by decide);rw [decide_eq_true rfl] at p20;refine za6 env0_ok fn6 [] (y04 rfl) rfl fun w0 N0 => ?_;unfold ic6;refine zbh ?_;refine zal rfl rfl p20 (fun _ => rfl) ?_;refine zc9 ?_;exact uE
mutual
theorem zls {v w : List Bool} : ∀ x : Ex, (∀ z, z ∈ ze3 x -> v.getD z.toNat false = w.getD z.toNat false) -> zas v x = zas w x
 | .nd op ix args, h => by
  rw [ze3] at h;have hl := zk6 (v := v) (w := w) args fun z hz => h z (y1a _ hz);rw [zas, zas, hl];by_cases h1 : op = 1
  ·have := h ix (y1f _ (by rw [if_pos h1]; exact y0o.2 rfl));rw [this]
  ·rw [if_neg h1, if_neg h1]
theorem zk6 {v w : List Bool} : ∀ l : List Ex, (∀ z, z ∈ zg8 l -> v.getD z.toNat false = w.getD z.toNat false) -> ze7 v l = ze7 w l
 | [], _ => by rw [ze7, ze7]
 | y :: ys, h => by
  rw [zg8] at h;rw [ze7, ze7, zls y fun z hz => h z (y1f _ hz), zk6 ys fun z hz => h z (y1a _ hz)]
end
theorem zj0 {a b : List Bool} {z : Nat} : (a ++ b).getD z false = if z < a.length then a.getD z false else b.getD (z - a.length) false := by
 rw [y0j, y0j, y0j];split
 ·rename_i h;rw [y0z h]
 ·rename_i h;rw [y12 (by omega)]
def dst4 (i : Nat) : Nat := match i with | 6 => 69 | 7 => 76 | 8 => 77 | 9 => 13 | 10 => 0 | 11 => 14 | j => j + 70
theorem zv3 : ∀ i, i < 12 -> ∀ j, j < 12 -> i ≠ j -> dst4 i ≠ dst4 j := by decide
theorem zv2 : ∀ i, i < 12 -> i ≠ 10 -> dst4 i ≠ 2 /\ dst4 i ≠ 3 /\ dst4 i ≠ 5 /\ dst4 i ≠ 10 := by decide
def vl4 (c : Ctl) (s m : Sta) (z : Int) (i : Nat) : AV := match i with
 | 0 => .agg (cC c)
 | 1 => .agg (cS s)
 | 2 => vsI [z]
 | 3 => .vptr [.int .i64 z]
 | 4 => .int .i64 z
 | 5 => .tup [.agg (cS m), .int .i64 0]
 | 6 => .tup [.agg (cS m), .int .i64 0]
 | 7 => .agg (cS m)
 | _ => .int .i64 0
structure I4 (c : Ctl) (s m : Sta) (z : Int) (X : AV) (D : List Nat) (l : List (Nat × AV)) (hp : List (Nat × Nat × AObj)) (nx n t : Nat) : Prop where
 b2 : zah 2 l = some (.vptr (cC c))
 b3 : zah 3 l = some (.vptr (cS s))
 b5 : zah 5 l = some (vsI [z])
 b10 : zah 10 l = some X
 vl : ∀ i, i ∈ D -> i ≠ 9 -> i ≠ 10 -> zah (dst4 i) l = some (vl4 c s m z i)
 al : 9 ∈ D -> zah 13 l = some (.mptr n t 0) /\ n < nx /\ (10 ∉ D -> Am.look n hp = some (t, .cells zf1)) /\ (10 ∈ D -> Am.look n hp = some (t, .cells (cS m)))
 dl : ∀ i, i ∈ D -> i < 12
theorem I4.op {c : Ctl} {s m : Sta} {z : Int} {X : AV} {D : List Nat} {l : List (Nat × AV)} {hp : List (Nat × Nat × AObj)} {nx n t i : Nat} (h : I4 c s m z X D l hp nx n t) (hi : i < 12) (h9 : i ≠ 9) (h10 : i ≠ 10) (hD : i ∉ D) : I4 c s m z X (i :: D) ((dst4 i, vl4 c s m z i) :: l) hp nx n t := by
 obtain ⟨d2, d3, d5, d10⟩ := zv2 i hi h10;refine ⟨(zax d2 _ _).trans h.b2, (zax d3 _ _).trans h.b3, (zax d5 _ _).trans h.b5, (zax d10 _ _).trans h.b10, fun j hj j9 j10 => ?_, fun hj => ?_, fun j hj => ?_⟩
 ·rcases y0f.1 hj with rfl | hj
  ·exact zfx ..
  ·rw [zax (zv3 i hi j (h.dl j hj) fun e => hD (by rw [e]; exact hj))];exact h.vl j hj j9 j10
 ·have hj : 9 ∈ D := (y0f.1 hj).resolve_left fun e => h9 e.symm;obtain ⟨a1, a2, a3, a4⟩ := h.al hj;refine ⟨?_, a2, fun hn => a3 fun e => hn (y0a _ e), fun hn => a4 ((y0f.1 hn).resolve_left fun e => h10 e.symm)⟩;exact (zax (zv3 i hi 9 (by decide) h9) _ _).trans a1
 ·rcases y0f.1 hj with rfl | hj
  ·exact hi
  ·exact h.dl j hj
end Go.Proofs.YtdolbghhcijonaaGreat
namespace Go.Proofs.YtdolbghhcijonaaGreat
open Go Go.Am
structure Clo (c : Ctl) (L : List Int) : Prop where
 on : ∀ j, j < c.sg.length -> ((fsC c + j : Nat) : Int) ∈ L -> ∀ z, z ∈ ze3 (sgA c.sg j).on -> z ∈ L
 off : ∀ j, j < c.sg.length -> ((fsC c + j : Nat) : Int) ∈ L -> (sgA c.sg j).kd = 1 -> ∀ z, z ∈ ze3 (sgA c.sg j).off -> z ∈ L
structure Alk (c : Ctl) (L : List Int) (s t : Sta) : Prop where
 pre : ∀ z : Nat, z < fsC c -> ((z : Nat) : Int) ∈ L -> (zfh s.en s.inp).getD z false = (zfh t.en t.inp).getD z false
 v : ∀ j, j < c.sg.length -> ((fsC c + j : Nat) : Int) ∈ L -> bA s.vals j = bA t.vals j
 t : ∀ j, j < c.sg.length -> ((fsC c + j : Nat) : Int) ∈ L -> zA s.tms j = zA t.tms j
theorem zm4 {c : Ctl} {s : Sta} (h : Ct c) (hs : Ss c s) : fsC c = (zfh s.en s.inp).length := by
 obtain ⟨k1, k2, k3, k4, k5⟩ := hs.sh;have a1 := h.a1;rw [zgt];unfold fsC;omega
theorem zmz {c : Ctl} {L : List Int} {p q v w : List Bool} {x : Ex} (hx : zd7 x (lnC c) = 0) (hp : fsC c = p.length) (hq : fsC c = q.length) (hL : ∀ z, z ∈ ze3 x -> z ∈ L)
  (hpre : ∀ z : Nat, z < fsC c -> ((z : Nat) : Int) ∈ L -> p.getD z false = q.getD z false)
  (hv : ∀ j, j < c.sg.length -> ((fsC c + j : Nat) : Int) ∈ L -> bA v j = bA w j) : zas (p ++ v) x = zas (q ++ w) x := by
 refine zls _ fun z hz => ?_;have hr := zh4 (zhf hx) hz;have hzL := hL z hz;obtain ⟨n, rfl⟩ : ∃ n : Nat, z = n := ⟨z.toNat, by omega⟩
 rw [y1e, zj0, zj0, <- hp, <- hq];split
 ·rename_i h1;exact hpre n h1 hzL
 ·rename_i h1;refine hv (n - fsC c) ?_ ?_
  ·have := hr.2;unfold lnC at this;omega
  ·rw [show fsC c + (n - fsC c) = n by omega]
   exact hzL
theorem zvn {c : Ctl} {L : List Int} {p q v w : List Bool} (h : Ct c) (hC : Clo c L) (hp : fsC c = p.length) (hq : fsC c = q.length) (hvl : v.length = c.sg.length) (hwl : w.length = c.sg.length)
  (hpre : ∀ z : Nat, z < fsC c -> ((z : Nat) : Int) ∈ L -> p.getD z false = q.getD z false)
  (hv : ∀ j, j < c.sg.length -> ((fsC c + j : Nat) : Int) ∈ L -> bA v j = bA w j) : ∀ k, k <= c.sg.length -> ∀ j, j < c.sg.length -> ((fsC c + j : Nat) : Int) ∈ L -> bA (gat p c.sg v k) j = bA (gat q c.sg w k) j
 | 0, _, j, hj, hm => hv j hj hm
 | k + 1, hk, j, hj, hm => by
  have ih := zvn h hC hp hq hvl hwl hpre hv k (by omega);have e1 : ∀ p v, gat p c.sg v (k + 1) = if (sgA c.sg k).kd = 0 then (gat p c.sg v k).set k (zas (p ++ gat p c.sg v k) (sgA c.sg k).on) else gat p c.sg v k := fun _ _ => rfl
  rw [e1, e1];split
  ·rename_i h0;rw [zo1 _ _ (by rw [zeq]; omega), zo1 _ _ (by rw [zeq]; omega)];split
   ·rename_i e;subst e;exact zmz (h.on k (by omega)) hp hq (hC.on k (by omega) hm) hpre ih
   ·exact ih j hj hm
  ·exact ih j hj hm
theorem gate_alk {c : Ctl} {L : List Int} {s t : Sta} (h : Ct c) (hC : Clo c L) (hs : Ss c s) (ht : Ss c t) (hA : Alk c L s t) : Alk c L (zbn c s) (zbn c t) :=
 ⟨hA.pre, zvn h hC (zm4 h hs) (zm4 h ht) hs.sh.2.2.2.1 ht.sh.2.2.2.1 hA.pre hA.v c.sg.length (y08 _), hA.t⟩
theorem zwq {c : Ctl} {L : List Int} {s t : Sta} (h : Ct c) (hC : Clo c L) (hs : Ss c s) (ht : Ss c t) (hA : Alk c L s t) : Alk c L (zfi c s) (zfi c t) := by
 have hG := gate_alk h hC hs ht hA;have hsg := zpx hs;have htg := zpx ht;have e1 : ∀ u, zfi c u = rnd c (zfo (zbn c u)) (zbn c u) c.sg.length := fun _ => rfl;rw [e1, e1];generalize zbn c s = a at *;generalize zbn c t = b at *;obtain ⟨l1, l2, l3, l4, l5⟩ := zid c (zfo a) a c.sg.length;obtain ⟨m1, m2, m3, m4, m5⟩ := zid c (zfo b) b c.sg.length;obtain ⟨k1, k2, k3, k4, k5⟩ := hsg.sh;obtain ⟨j1, j2, j3, j4, j5⟩ := htg.sh;have hat := zs5 c (zfo a) a c.sg.length (by omega) (by omega);have hbt := zs5 c (zfo b) b c.sg.length (by omega) (by omega);have hrl : ∀ j, j < c.sg.length -> ((fsC c + j : Nat) : Int) ∈ L -> rl c (zfo a) a j = rl c (zfo b) b j := fun j hj hm => by
  unfold rl zfo;rw [hG.v j hj hm, hG.t j hj hm, zmz (h.on j hj) (zm4 h hsg) (zm4 h htg) (hC.on j hj hm) hG.pre hG.v];by_cases e : (sgA c.sg j).kd = 1
  ·rw [zmz (h.off j hj e) (zm4 h hsg) (zm4 h htg) (hC.off j hj hm e) hG.pre hG.v]
  ·rw [decide_eq_false e];rfl
 refine ⟨fun z hz hm => ?_, fun j hj hm => ?_, fun j hj hm => ?_⟩
 ·rw [l3, l5, m3, m5];exact hG.pre z hz hm
 ·rw [(hat j).1, (hbt j).1, if_pos hj, if_pos hj, hrl j hj hm]
 ·rw [(hat j).2, (hbt j).2, if_pos hj, if_pos hj, hrl j hj hm]
theorem it_alk {c : Ctl} {L : List Int} {s t : Sta} (h : Ct c) (hC : Clo c L) (hs : Ss c s) (ht : Ss c t) (hA : Alk c L s t) : ∀ n, Alk c L (itS c s n) (itS c t n)
 | 0 => hA
 | n + 1 => zwq h hC (zl7 hs n) (zl7 ht n) (it_alk h hC hs ht hA n)
theorem zvt {c : Ctl} {s : Sta} {n : Nat} (h : itS c s (n + 1) = itS c s n) : ∀ k, itS c s (n + k) = itS c s n
 | 0 => rfl
 | k + 1 => by
  show zfi c (itS c s (n + k)) = _;rw [zvt h k];exact h
def zh8 (s : Sta) (i : Nat) : Sta := ⟨s.en, s.va, s.inp.set i (!bA s.inp i), s.vals, s.tms⟩
theorem zva {c : Ctl} {s : Sta} (hs : Ss c s) (i : Nat) : Ss c (zh8 s i) := by
 obtain ⟨k1, k2, k3, k4, k5⟩ := hs.sh;exact ⟨⟨hs.e, hs.v, by show (List.set _ _ _).length <= _; rw [y24]; exact hs.i, hs.b, hs.t⟩, ⟨k1, k2, by show (List.set _ _ _).length = _; rw [y24]; exact k3, k4, k5⟩, hs.e4, hs.t3, hs.tk⟩
theorem flip_alk {c : Ctl} {s : Sta} {L : List Int} {i : Nat} (h : Ct c) (hs : Ss c s) (hi : i < c.ins.length) (hn : 2 * c.act + ((i : Nat) : Int) ∉ L) : Alk c L s (zh8 s i) := by
 obtain ⟨k1, k2, k3, k4, k5⟩ := hs.sh;have a1 := h.a1;refine ⟨fun z hz hm => ?_, fun _ _ _ => rfl, fun _ _ _ => rfl⟩;have hl := zgt s.en [];have e0 : ∀ inp, zfh s.en inp = zfh s.en [] ++ inp := fun inp => by unfold zfh; rw [y0s]
 rw [show (zh8 s i).en = s.en from rfl, show (zh8 s i).inp = s.inp.set i (!bA s.inp i) from rfl, e0, e0 (s.inp.set i _), zj0, zj0, hl]
 split
 ·rfl
 ·rename_i h1;show bA s.inp _ = bA (s.inp.set i _) _;rw [zo1 _ _ (by omega), if_neg];intro e;refine hn ?_;have : 2 * c.act + ((i : Nat) : Int) = ((z : Nat) : Int) := by
   have h1 : ¬ z < 2 * s.en.length + 0 := h1;have e : i = z - (2 * s.en.length + 0) := e;omega
  rw [this];exact hm
theorem zu4 {c : Ctl} {s : Sta} {L : List Int} {i n m j : Nat} (h : Ct c) (hs : Ss c s) (hi : i < c.ins.length) (hC : Clo c L) (hn : 2 * c.act + ((i : Nat) : Int) ∉ L) (hfn : itS c s (n + 1) = itS c s n) (hfm : itS c (zh8 s i) (m + 1) = itS c (zh8 s i) m) (hj : j < c.sg.length) (hm : ((fsC c + j : Nat) : Int) ∈ L) :
  bA (itS c s n).vals j = bA (itS c (zh8 s i) m).vals j /\ zA (itS c s n).tms j = zA (itS c (zh8 s i) m).tms j := by
 have hA := it_alk h hC hs (zva hs i) (flip_alk h hs hi hn) (n + m);rw [zvt hfn m, Nat.add_comm, zvt hfm n] at hA;exact ⟨hA.v j hj hm, hA.t j hj hm⟩
end Go.Proofs.YtdolbghhcijonaaGreat
namespace Go.Proofs.YtdolbghhcijonaaGreat
open Go Go.Am
set_option maxRecDepth 100000
def dnx (P : Nat -> Bool) (m i : Nat) : Int := match ((List.range m).drop i).find? P with
 | some u => (u : Nat)
 | none => -1
theorem dnx_step {P : Nat -> Bool} {m i : Nat} (h : i < m) : dnx P m i = if P i = true then ((i : Nat) : Int) else dnx P m (i + 1) := by
 unfold dnx;rw [y0q (by rw [y1v]; exact h), List.getElem_range, List.find?_cons];cases P i <;> rfl
theorem dnx_end (P : Nat -> Bool) (m : Nat) : dnx P m m = -1 := by
 unfold dnx;rw [List.drop_of_length_le (by rw [y1v]; exact y08 _)];rfl
theorem zxk {o : List Int} {i : Nat} (h : i < o.length) : o[i] = zA o i := by
 unfold zA;rw [y0j, y0d h];rfl
def b26_0 : IC := sR [oM 9 (.bin .lss (.t 8) (.t 7))]
 (.seq (.cond (.t 9) (.skip)
 (.exit 0))
 (.seq (.block 1 (sR [oT 10 8,
  oT 5 10]
 (sR [oT 11 1,
  oT 12 0,
  oT 13 5,
  oM 14 (.idxs 1 (.t 12) (.t 13)),
  oN 15 14,
  oM 16 (.bin .eql (.t 11) (.t 15))]
 (.cond (.t 16) (sR [oT 17 5,
  oT 4 17]
 (.ret))
 (.skip)))))
 (.region [oM 18 (.bin .add (.t 8) (cI 1)),
  oT 8 18] none)))
-- slices.Index[[]int,int]
def ic26 : IC := sR [oM 4 (.mov (cI 0))]
 (.seq (sR [oT 6 0,
  oM 7 (.len false (.t 6)),
  oM 8 (.mov (cI 0))]
 (.block 0 (.loop b26_0)))
 (sR [oM 4 (.mov (cI (-1)))]
 (.ret)))
theorem fn26 : env0.fn 26 = some ⟨19, ic26, [.t 4]⟩ := by kernel_rfl
set_option maxHeartbeats 1000000 in
theorem index26 (a : List Int) (x : Int) (ha : a.length <= 1000000) : PF Tryz.prog 26 [vsI a, .int .i64 x] (.int .i64 (dnx (fun i => zA a i == x) a.length 0)) := by
 have hva : (a.map fun z => ([.int .i64 z] : List AV)).length = a.length := y06 ..;refine za6 env0_ok fn26 [(0, vsI a), (1, .int .i64 x)] (by show 2 <= 19; decide) rfl fun w0 N0 => ?_
 unfold ic26;refine zc9 ?_;refine zav (fun mm S => ∃ i, mm = a.length - i /\ i <= a.length /\ dnx (fun i => zA a i == x) a.length i = dnx (fun i => zA a i == x) a.length 0 /\ S = st 19 [(0, vsI a), (1, .int .i64 x), (7, .int .i64 (a.length : Nat)), (8, .int .i64 (i : Nat))] [] 0 0) a.length
  (zb9 (.cons rfl (.cons rfl (.cons (by rw [<- hva]; rfl) (.cons rfl .nil))))) ⟨0, rfl, y0r _, rfl, rfl⟩ ?_
 rintro mm S ⟨i, rfl, hi, hd, rfl⟩;unfold b26_0;refine zcj ?_;refine za4 rfl rfl rfl (fun h3 => ?_) fun h3 => ?_
 ·have hlt : i < a.length := y1i.1 (of_decide_eq_true h3);have w1 := za7 i (by omega);have hg : (a.map fun z => ([.int .i64 z] : List AV))[((i : Nat) : Int).toNat]? = some [.int .i64 (zA a i)] := by rw [vsI_get hlt, zxk]
  rw [dnx_step hlt] at hd;refine zb7 ?_;refine za4 rfl rfl rfl (fun h4 => ?_) fun h4 => ?_
  ·have h4 : x = zA a i := by simpa using h4
   rw [if_pos (by simp [h4])] at hd;rw [<- hd];refine zb7 ?_;exact uE
  ·have h4 : ¬ x = zA a i := by simpa using h4
   rw [if_neg (by simp; exact fun e => h4 e.symm)] at hd;refine zb7 ?_;rw [w1];exact zad (show a.length - (i + 1) < a.length - i by omega) skp ⟨i + 1, rfl, hlt, hd, rfl⟩
 ·have hi2 : i = a.length := by
   have : ¬ i < a.length := fun h => of_decide_eq_false h3 (y1i.2 h);omega
  subst hi2;rw [dnx_end] at hd;rw [<- hd];refine zb4 ?_;refine zbq ?_;refine zb4 ?_;exact uE
theorem dnx_ge {P : Nat -> Bool} {m : Nat} : dnx P m 0 >= 0 ↔ ∃ i, i < m /\ P i = true := by
 unfold dnx;rw [y26];constructor
 ·intro h;split at h
  ·rename_i u hu;exact ⟨u, y0m.1 (List.mem_of_find?_eq_some hu), List.find?_some hu⟩
  ·omega
 ·rintro ⟨i, h1, h2⟩;split
  ·omega
  ·rename_i hn;exact absurd h2 (List.find?_eq_none.1 hn i (y0m.2 h1))
theorem dnx_has (a : List Int) (x : Int) : decide (dnx (fun i => zA a i == x) a.length 0 >= 0) = a.contains x := by
 rw [Bool.eq_iff_iff, decide_eq_true_eq, dnx_ge, y1m];constructor
 ·rintro ⟨i, h1, h2⟩;rw [beq_iff_eq, <- zxk h1] at h2;rw [<- h2];exact y0x h1
 ·intro h;obtain ⟨i, h1, h2⟩ := y1g.1 h;exact ⟨i, h1, by rw [beq_iff_eq, <- zxk h1]; exact h2⟩
-- slices.Contains[[]int,int]
def ic12 : IC := sR [oM 4 (.mov (.c (.bool false)))]
 (sR [oT 5 0,
  oT 6 1,
  oM 7 (.call (.c (.fn 26 [] [])) [(.t 5), (.t 6)]),
  oM 8 (.bin .geq (.t 7) (cI 0)),
  oT 4 8]
 (.ret))
theorem fn12 : env0.fn 12 = some ⟨9, ic12, [.t 4]⟩ := by kernel_rfl
set_option maxHeartbeats 1000000 in
theorem zlj (a : List Int) (x : Int) (ha : a.length <= 1000000) : PF Tryz.prog 12 [vsI a, .int .i64 x] (.bool (a.contains x)) := by
 have p26 := index26 a x ha;have hh := dnx_has a x;generalize dnx (fun i => zA a i == x) a.length 0 = d at *;refine za6 env0_ok fn12 [(0, vsI a), (1, .int .i64 x)] (by show 2 <= 9; decide) rfl fun w0 N0 => ?_
 unfold ic12;refine zb7 ?_;refine za4 rfl rfl rfl (fun h => ?_) fun h => ?_
 ·rw [<- hh, show decide (d >= 0) = true from h]
  refine zcj ?_;exact uE
 ·rw [<- hh, show decide (d >= 0) = false from h]
  refine zcj ?_;exact uE
end Go.Proofs.YtdolbghhcijonaaGreat
namespace Go.Proofs.YtdolbghhcijonaaGreat
open Go Go.Am
set_option maxRecDepth 100000
section
variable {σ : Type} {M : Nat -> Prop} {I : σ -> HS -> Prop} {step : σ -> Int -> σ} {ms : σ -> Nat} {B : Nat}
theorem zvb (hm : ∀ s v, ms (step s v) <= ms s + 1) : ∀ (l : List Int) (s : σ), ms (l.foldl step s) <= ms s + l.length
 | [], s => y08 _
 | v :: l, s => by
  have h1 := zvb hm l (step s v);have h2 := hm s v;rw [List.foldl_cons, y19];omega
set_option maxHeartbeats 4000000 in
set_option maxRecDepth 100000 in
theorem visit73b {w0 : World} {N0 : Nat} {g : FuncId} {fi ca : List AV} {a sa b sb : Nat} (hloc : Local M I) (hm : ∀ s v, ms (step s v) <= ms s + 1) (hy : ∀ s line H, ms s + 1 <= B -> I s H -> CT Tryz.prog w0 N0 (.fn g fi ca) [.int .i64 line] H (fun _ H' => Keep M H H' /\ I (step s line) H')) :
  ∀ (q : Nat) (x : Ex) (H : HS) (s : σ), SizeOf.sizeOf x <= q -> Slim x -> ms s + (ze3 x).length <= B -> I s H -> Capt M (.fn g fi ca) a sa b sb H ->
   FT Tryz.prog w0 N0 73 [.agg (cX x), .mptr a sa 0, .mptr b sb 0] H (fun _ H' => Keep M H H' /\ I ((ze3 x).foldl step s) H') := by
 intro q
 induction q with
 | zero => intro x H s hq; cases x; simp at hq
 | succ q ih =>
 intro x H s hq hw hok hI hC;obtain ⟨op, ix, args⟩ := x;obtain ⟨hlen, hsl⟩ : args.length < 9223372036854775808 /\ ∀ y ∈ args, Slim y := by cases hw with | nd h k => exact ⟨h, k⟩
 refine zbl env0_ok fn73 [(0, .agg (cX (.nd op ix args))), (1, .mptr a sa 0), (2, .mptr b sb 0)] (y04 rfl) rfl ?_;unfold ic73;have rest : ∀ (H1 : HS) (s1 : σ) (l : List (Nat × AV)), Keep M H H1 -> I s1 H1 -> Am.look H.next H1.heap = some (H.clk, .cells (cX (.nd op ix args))) -> H.next < H1.next -> ms s1 + (zg8 args).length <= B -> (ze3 (.nd op ix args)).foldl step s = (zg8 args).foldl step s1 -> zah 2 l = some (.mptr b sb 0) -> zah 3 l = some (.mptr H.next H.clk 0) ->
   Zm Tryz.prog w0 N0 (some none) (sR [oF 13 2 3, oN 14 13, oM 15 (.len false (.t 14)), oM 16 (.mov (cI 0))] (.block 0 (.loop zub)))
    (st 24 l H1.heap H1.next H1.clk) [] (fun e S' => (e = .normal \/ e = .ret) /\ ∃ v, S'.leave.res [] = some v /\ (Keep M H S'.leave.hs /\ I ((ze3 (.nd op ix args)).foldl step s) S'.leave.hs)) := by
  intro H1 s1 l hK hI1 hlk hnx hb1 hfold l2 l3;refine zsr rfl (zae l3 ?_);refine zab rfl hlk hnx rfl ?_;refine zc9 ?_;refine zav (fun mm S => ∃ (i : Nat) (s' : σ) (H' : HS), mm = args.length - i /\ i <= args.length /\ (zg8 args).foldl step s1 = (zg8 (args.drop i)).foldl step s' /\ ms s' + (zg8 (args.drop i)).length <= B /\ I s' H' /\ Keep M H H' /\
    S = st 24 [(2, .mptr b sb 0), (14, .vs (cXs args)), (15, .int .i64 (cXs args).length), (16, .int .i64 (i : Nat))] H'.heap H'.next H'.clk) args.length
   (zb9 (.cons l2 (.cons rfl (.cons rfl (.cons rfl .nil))))) ⟨0, s1, H1, rfl, y0r _, rfl, hb1, hI1, hK, rfl⟩ ?_
  rintro mm S ⟨i, s', H', rfl, hi, hwl, hbl, hI', hK', rfl⟩;have hC' := hC.keep hK';unfold zub;refine zcj ?_;refine za4 rfl rfl rfl (fun h1 => ?_) fun h1 => ?_
  ·have hlt : i < args.length := by
    have := of_decide_eq_true h1;rw [zai] at this;omega
   have hge := ze2 hlt;have hmem : args[i] ∈ args := y0x hlt;rw [y0q hlt, zg8, List.foldl_append] at hwl;rw [y0q hlt, zg8, y0l] at hbl;generalize args[i] = y at hwl hge hmem hbl;have hoky : ms s' + (ze3 y).length <= B := by omega
   have hbn := zvb hm (ze3 y) s';have w1 := za7 i (by omega);obtain ⟨yo, yi, ya⟩ := y;refine zb4 ?_;refine zaj rfl rfl rfl rfl za3 rfl rfl ?_;rw [zc7];refine zcj ?_;refine zab rfl ((za5 hC'.lb).trans hC'.hb) (y15 hC'.lb) rfl ?_;refine zbp rfl za3 (y07 _) rfl rfl ?_;refine zhh _ rfl rfl (zgo (ih (.nd yo yi ya) ⟨_, _, _⟩ s' (by have := zgm (op := op) (ix := ix) hmem; omega) (hsl _ hmem) hoky (hloc.new hI' _ _) (hC'.keep (Keep.new M H' _)))) (fun _ _ _ _ hm => absurd hm y0c) fun v H3 hF3 => ?_
   obtain ⟨hK3, hI3⟩ := hF3;refine zb7 ?_;rw [w1];exact zad (show args.length - (i + 1) < args.length - i by omega) skp ⟨i + 1, _, H3, rfl, hlt, hwl, by omega, hI3, hK'.trans ((Keep.new M H' _).trans hK3), rfl⟩
  ·have hi2 : i = args.length := by
    have := of_decide_eq_false h1;rw [zai] at this;omega
   rw [hi2, y1l, zg8] at hwl;refine zb4 ?_;refine zbq ?_;repeat (first | refine zem ?_)
   exact zaa ⟨.inl rfl, _, rfl, hK', by rw [hfold, hwl]; exact hI'⟩
 refine zb7 ?_;refine zab rfl za3 (y07 _) rfl ?_;have hK0 : Keep M H ⟨(H.next, H.clk, .cells (cX (.nd op ix args))) :: H.heap, H.next + 1, H.clk + 1⟩ := Keep.new M H (H.clk, _);have hC0 := hC.keep hK0;refine za4 rfl rfl rfl (fun h1 => ?_) fun h1 => ?_
 ·have h1 : op = 1 := by simpa using h1
  subst h1;have hok2 : ms s + (1 + (zg8 args).length) <= B := by rw [ze3, if_pos rfl, y0l] at hok; exact hok
  have hk1 : ms s + 1 <= B := by omega
  have hst := hm s ix;refine zcj ?_;refine zab rfl hC0.ha hC0.la rfl ?_;repeat (first | refine zae rfl ?_)
  refine zab rfl za3 (y07 _) rfl ?_;refine zhh _ rfl rfl (hy s ix ⟨_, _, _⟩ hk1 (hloc.new hI _ _)) (fun _ _ _ _ hm => absurd hm y0c) fun v H2 hF => ?_;obtain ⟨hK2, hI2⟩ := hF;refine onu ?_;exact rest H2 _ _ (hK0.trans hK2) hI2 ((hK2.look H.next (fun hm => y21 _ (hloc.lt s H hI _ hm)) (y07 _)).trans za3) (y09 (y07 _) hK2.next) (by omega) (by rw [ze3, if_pos rfl]; rfl) rfl rfl
 ·have h1 : ¬ op = 1 := by simpa using h1
  refine onu (zfj rfl (zbd (zau ?_)));exact rest ⟨_, _, _⟩ s _ hK0 (hloc.new hI _ _) za3 (y07 _) (by rw [ze3, if_neg h1] at hok; exact hok) (by rw [ze3, if_neg h1]; rfl) rfl rfl
set_option maxHeartbeats 4000000 in
set_option maxRecDepth 100000 in
theorem zv4 {w0 : World} {N0 : Nat} {g : FuncId} {fi ca : List AV} (hloc : Local M I) (hm : ∀ s v, ms (step s v) <= ms s + 1) (hy : ∀ s line H, ms s + 1 <= B -> I s H -> CT Tryz.prog w0 N0 (.fn g fi ca) [.int .i64 line] H (fun _ H' => Keep M H H' /\ I (step s line) H')) (x : Ex) (hx : Slim x) (H : HS) (s : σ) (hok : ms s + (ze3 x).length <= B) (hI : I s H) :
  FT Tryz.prog w0 N0 49 [.agg (cX x), .fn g fi ca] H (fun _ H' => Keep M H H' /\ I ((ze3 x).foldl step s) H') := by
 obtain ⟨op, ix, args⟩ := x;refine zbl env0_ok fn49 [(0, .agg (cX (.nd op ix args))), (1, .fn g fi ca)] (y04 rfl) rfl ?_;unfold ic49;have hlt := hloc.lt s H hI;refine zbh ?_;refine zaj rfl rfl rfl rfl za3 rfl rfl ?_;rw [zc7];refine zcj ?_;refine zab rfl za3 (y07 _) rfl ?_;refine zbp rfl ((za5 (y15 (y07 _))).trans ((za5 (y07 _)).trans za3)) (by omega) rfl rfl ?_;have hk0 : Keep M H ⟨(H.next + 1 + 1, H.clk + 1 + 1, .cells (setAt 0 [.nilf] [.fn 73 [] [.mptr (H.next + 1) (H.clk + 1) 0, .mptr (H.next + 1 + 1) (H.clk + 1 + 1) 0]])) :: (H.next + 1, H.clk + 1, .cells [.fn g fi ca]) :: (H.next, H.clk, .cells (cX (.nd op ix args))) :: H.heap, H.next + 1 + 1 + 1, H.clk + 1 + 1 + 1⟩ :=
  ((Keep.new M H (H.clk, .cells (cX (.nd op ix args)))).trans (Keep.new M ⟨(H.next, H.clk, .cells (cX (.nd op ix args))) :: H.heap, H.next + 1, H.clk + 1⟩ (H.clk + 1, .cells [.fn g fi ca]))).trans (Keep.new M ⟨(H.next + 1, H.clk + 1, .cells [.fn g fi ca]) :: (H.next, H.clk, .cells (cX (.nd op ix args))) :: H.heap, H.next + 1 + 1, H.clk + 1 + 1⟩ (H.clk + 1 + 1, _))
 refine zhh _ rfl rfl (zgo (visit73b hloc hm hy (SizeOf.sizeOf (Ex.nd op ix args)) (.nd op ix args) ⟨_, _, _⟩ s (y08 _) hx hok (hloc.of s H ⟨_, _, _⟩ hI hk0.next fun i hm => (za5 (by have := hlt i hm; omega)).trans ((za5 (by have := hlt i hm; omega)).trans (za5 (hlt i hm))))
  ⟨fun hm => by have := hlt _ hm; omega, fun hm => by have := hlt _ hm; omega, by show H.next + 1 < H.next + 1 + 1 + 1; omega, by show H.next + 1 + 1 < H.next + 1 + 1 + 1; omega, (za5 (y07 _)).trans za3, za3⟩)) (fun _ _ _ _ hm => absurd hm y0c) fun v H2 hF => ?_
 obtain ⟨hK, hF⟩ := hF;refine zay ?_;exact zaa ⟨.inl rfl, _, rfl, hk0.trans hK, hF⟩
end
end Go.Proofs.YtdolbghhcijonaaGreat
namespace Go.Proofs.YtdolbghhcijonaaGreat
open Go Go.Am
def nil10 : List AV := [.str [], .int .i64 0, .int .i64 0, .int .i64 0, .nils, .int .i64 0, .int .i64 0, .nils, .int .i64 0, .bool false]
def ios25 : List Opr := [oF 27 2 2, oN 28 27, oT 29 1, oL 30 5 2, oM 31 (.call (.c (.fn 47 [] [])) [(.t 30)]), oM 32 (.bin .sub (.t 29) (.t 31)), oM 33 (.idxs 10 (.t 28) (.t 32)), oL 34 10 33, oM 7 (.alloc [.str [], .int .i64 0, .int .i64 0, .int .i64 0, .nils, .int .i64 0, .int .i64 0, .nils, .int .i64 0, .bool false]), ⟨none, .store 10 (.t 7) (.t 34), none⟩]
def pres25 : List (List Nat) := [[], [0], [], [], [3], [2, 4], [1, 5], [6], [], [8, 7, 4, 0, 1, 2, 3, 4, 5, 6, 7, 8]]
def rg25 (c : Ctl) (j : Nat) : RegC where
 m := 9
 dst := fun j => match j with | 8 => 7 | j => j + 27
 qv := fun i => match i with
  | 0 => .c fun _ => .vptr ((cC c).drop 2)
  | 1 => .c fun _ => vsG c.sg
  | 2 => .c fun _ => .int .i64 ((fsC c + j : Nat) : Int)
  | 3 => .c fun _ => .agg (cC c)
  | 4 => .c fun _ => .int .i64 (fsC c : Nat)
  | 5 => .c fun _ => .int .i64 (j : Nat)
  | 6 => .c fun _ => .vptr (c10 (sgA c.sg j))
  | 7 => .c fun _ => .agg (c10 (sgA c.sg j))
  | _ => .l
 lw := fun _ x => .mptr (x 0) (x 1) 0
 tl := fun _ x hp lo hi => Am.look (x 0) hp = some (x 1, .cells nil10) /\ lo <= x 0 /\ x 0 < hi
 st := fun _ _ _ _ _ _ h hk => ⟨(hk _ h.2.2).trans h.1, h.2⟩
theorem rok25 : zir 9 10 pres25 (fun j => match j with | 8 => 7 | j => j + 27) [1, 2] = true := by kernel_rfl
set_option maxHeartbeats 4000000 in
set_option maxRecDepth 100000 in
theorem reg25 {w0 : World} {N0 : Nat} {c : Ctl} {j : Nat} {l0 : List (Nat × AV)} {hp0 : List (Nat × Nat × AObj)} {nx0 ck0 : Nat} (h : Ct c) (hj : j < c.sg.length) (h1 : zah 1 l0 = some (.int .i64 ((fsC c + j : Nat) : Int))) (h2 : zah 2 l0 = some (.vptr (cC c))) {y : IC} {k : List Fr} {Q : Exit -> AS -> Prop}
  (go : ∀ hp nx ck n t, n < nx -> Am.look n hp = some (t, .cells (c10 (sgA c.sg j))) -> Zm Tryz.prog w0 N0 none y (st 48 [(7, .mptr n t 0)] hp nx ck) k Q) :
  Zm Tryz.prog w0 N0 none (.region ios25 (some pres25)) (st 48 l0 hp0 nx0 ck0) (.seq y :: k) Q := by
 have p47 := zjv h.toSm;have s16 := h.s16;have a6 := h.a6;have i16 := h.i16;have hb5 : Am.binOp .sub (.int .i64 ((fsC c + j : Nat) : Int)) (.int .i64 (fsC c : Nat)) = some (.int .i64 (j : Nat)) := by
  show some (AV.int .i64 (IntKind.wrap .i64 (((fsC c + j : Nat) : Int) - (fsC c : Nat)))) = _;rw [show ((fsC c + j : Nat) : Int) - (fsC c : Nat) = ((j : Nat) : Int) by omega, wrap_nat j (by omega)]
 refine zpd env0_ok.mix fun rd => ?_;refine zg6 (rg25 c j) [(1, .int .i64 ((fsC c + j : Nat) : Int)), (2, .vptr (cC c))] (fun i S => ∃ l hp nx ck n t, S = st 48 l hp nx ck /\ zah 7 l = some (.mptr n t 0) /\ n < nx /\ (i = 9 -> Am.look n hp = some (t, .cells nil10) /\ zah 34 l = some (.agg (c10 (sgA c.sg j)))) /\ (i = 10 -> Am.look n hp = some (t, .cells (c10 (sgA c.sg j))))) 10 rfl rok25 ?_ ?_ ?_ ?_ ?_ ?_
 ·intro t v ht;rcases y0f.1 ht with e | ht
  ·cases e; exact h1
  ·cases y0o.1 ht; exact h2
 ·intro j f e nm nm' hp;unfold rg25 at e;dsimp only at e;split at e;all_goals first
   | (cases e; rfl)
   | (cases e; done)
 ·intro i hi n1 D l hp' nx' ck' nm lo hi' hK hp;have hi : i < 9 := hi;have hb2 := hK.bs 2 _ (me 1 rfl);have hb1 := hK.bs 1 _ (y01 ..);have q : ∀ k, k ∈ pres25.getD i [] -> ∀ f, (rg25 c j).qv k = .c f -> zah ((rg25 c j).dst k) l = some (f nm) := fun k hk f e => hK.q k f (hp k hk) e
  match i, hi with
   | 0, _ => exact fun go => za9 rfl rfl (zh9 hb2 rfl rfl) go
   | 1, _ => exact fun go => za9 rfl rfl (zlo (q 0 (by decide) _ rfl) rfl) go
   | 2, _ => exact fun go => za9 rfl rfl (zha hb1) go
   | 3, _ => exact fun go => za9 rfl rfl (zi1 hb2 rfl rfl rfl) go
   | 4, _ => exact fun go => zix rfl rfl rfl rfl (zh0 (q 3 (by decide) _ rfl)) rfl p47 noC go
   | 5, _ => exact fun go => za9 rfl rfl (g_bin (q 2 (by decide) _ rfl) (q 4 (by decide) _ rfl) hb5) go
   | 6, _ => exact fun go => za9 rfl rfl (zrd (q 1 (by decide) _ rfl) (q 5 (by decide) _ rfl) (y11 _) (zdi hj) rfl) go
   | 7, _ => exact fun go => za9 rfl rfl (zi1 (q 6 (by decide) _ rfl) rfl rfl rfl) go
   | 8, _ => exact fun go => za9 rfl rfl zhz (go (fun j => match j with | 0 => nx' | _ => ck') _ _ _ (y0y _) (fun j hj => za5 hj) ⟨za3, y08 _, y07 _⟩)
   | i + 9, h => exact absurd h (by omega)
 ·intro l hp' nx' ck' nm lo hi hK;have m : ∀ j, j < 9 -> j ∈ List.range 9 := fun j hj => y0m.2 hj;obtain ⟨a1, a2, a3⟩ := hK.lh 8 (m 8 (by decide)) rfl;exact ⟨l, hp', nx', ck', nm 8 0, nm 8 1, rfl, hK.lv 8 (m 8 (by decide)) rfl, y09 a1.2.2 a3, fun _ => ⟨a1.1, hK.q 7 _ (m 7 (by decide)) rfl⟩, fun h => absurd h (by show ¬ 9 = 10; decide)⟩
 ·rintro i h1 h2 S ⟨l, hp', nx3, ck3, n, t, rfl, k1, k2, k3, _⟩ m1 D go;have h1 : 9 <= i := h1;obtain rfl : i = 9 := by omega
  obtain ⟨q1, q2⟩ := k3 rfl;refine zik rfl (zf8 k1 q2 rfl rfl q1 rfl rfl) (go _ ⟨l, _, nx3, ck3, n, t, rfl, k1, k2, fun h => absurd h (by decide), fun _ => ?_⟩);rw [za0, if_pos rfl];rfl
 ·rintro S ⟨l, hp', nx3, ck3, n, t, rfl, k1, k2, _, k4⟩;exact (zau (zpe (md := none) (zb9 (.cons k1 .nil)) (go hp' nx3 ck3 n t k2 (k4 rfl)))).ok
end Go.Proofs.YtdolbghhcijonaaGreat
namespace Go.Proofs.YtdolbghhcijonaaGreat
open Go Go.Am
set_option maxRecDepth 100000
structure I48 (s : List Int) (H : HS) : Prop where
 nx : 2 <= H.next
 h0 : ∃ sp, Am.look 0 H.heap = some (0, .cells [.ms 1 sp 1 0 s.length none]) /\ Am.look 1 H.heap = some (sp, .cells (s.map (AV.int .i64)))
theorem zw0 : Local (fun i => i < 2) I48 :=
 ⟨fun s H h i hi => y09 hi h.nx, fun s H H' h hn hl =>
  ⟨y0u h.nx hn, let ⟨sp, a, b⟩ := h.h0; ⟨sp, (hl 0 (by decide)).trans a, (hl 1 (by decide)).trans b⟩⟩⟩
-- pneumatic/control.Uses$1
def ic48 : IC := .region [oN 3 1,
  oT 4 0,
  oM 5 (.bslice 1 1 [.int .i64 0] [(0, 1, (.t 4))]),
  oM 6 (.append 1 8 [.int .i64 0] (.t 3) (.t 5)),
  ⟨none, .store 1 (.t 1) (.t 6), none⟩] none
theorem fn48 : env0.fn 48 = some ⟨7, ic48, []⟩ := by kernel_rfl
set_option maxHeartbeats 2000000 in
set_option maxRecDepth 100000 in
theorem add48 {w0 : World} {N0 : Nat} (s : List Int) (v : Int) (H : HS) (hl : s.length + 1 <= 1000) (hI : I48 s H) :
  FT Tryz.prog w0 N0 48 [.int .i64 v, .mptr 0 0 0] H (fun _ H' => Keep (fun i => i < 2) H H' /\ I48 (s ++ [v]) H') := by
 obtain ⟨nx, sp, h0, h1⟩ := hI;refine zbl env0_ok fn48 [(0, .int .i64 v), (1, .mptr 0 0 0)] (y04 rfl) rfl ?_;unfold ic48;repeat (first | refine za8 rfl ?_)
 refine zab rfl h0 (by show 0 < H.next; omega) rfl ?_
 refine zan rfl (zcw rfl rfl ?_);refine zgr [[.int .i64 v]] (id := 1) (sp := sp) (len := s.length) (cs := s.map (AV.int .i64)) rfl rfl (zf5 (xs := [[.int .i64 v]]) (ys := []) za3 rfl fun x hx => by obtain rfl := y0o.1 hx; rfl) (fun h => Nat.noConfusion h) rfl (by decide) (by rw [zak, if_neg (by omega)]; exact h1) (by rw [y06, Nat.mul_one]) (by show _ + 1 <= _; omega) ?_
 refine zaj (sp := 0) (cs := [.ms 1 sp 1 0 s.length none]) rfl rfl rfl rfl (by rw [za0, if_neg (by decide), zak, if_neg (by omega)]; exact h0) rfl rfl ?_;refine zay (zaa ⟨.inl rfl, _, rfl, ⟨by show H.next <= H.next + 1; omega, by show H.clk <= _ + 1; show H.clk <= H.clk + 1 + 1; omega, fun i hi hj => ?_⟩, by show 2 <= H.next + 1; omega, H.clk + 1, ?_, ?_⟩)
 ·dsimp only [st, AS.leave, AS.hs, zjq, List.foldl];rw [za0, if_neg (by omega), za0, if_neg (by omega), zak, if_neg (by omega)]
 ·dsimp only [st, AS.leave, AS.hs, zjq, List.foldl];rw [za0, if_pos rfl, y0l];rfl
 ·dsimp only [st, AS.leave, AS.hs, zjq, List.foldl];rw [za0, if_neg (by decide), za0, if_pos rfl, y16];rfl
mutual
theorem zh3 : ∀ x : Ex, ((ze3 x).length : Int) <= szX x
 | .nd op ix args => by
  rw [ze3, szX, y0l];have h := zo7 args;split
  ·show ((1 + (zg8 args).length : Nat) : Int) <= _; omega
  ·show ((0 + (zg8 args).length : Nat) : Int) <= _; omega
theorem zo7 : ∀ l : List Ex, ((zg8 l).length : Int) <= szL l
 | [] => by rw [zg8, szL]; show ((0 : Nat) : Int) <= 0; omega
 | y :: ys => by
  rw [zg8, szL, y0l];have h1 := zh3 y;have h2 := zo7 ys;omega
end
theorem zk0 : ∀ (l s : List Int), l.foldl (fun s v => s ++ [v]) s = s ++ l
 | [], s => (y0s s).symm
 | v :: l, s => by rw [List.foldl_cons, zk0 l, y1w]; rfl
def usL (c : Ctl) (j : Nat) : List Int := cps (srt (ze3 (sgA c.sg j).on ++ ze3 (sgA c.sg j).off))
def usZ (c : Ctl) (z : Nat) : List Int := if z < fsC c then [] else usL c (z - fsC c)
-- pneumatic/control.Uses
def ic25 : IC := sR [oM 2 (.box (.t 0)),
  oM 4 (.mov (.c (.nils))),
  oM 5 (.mov (cI 0))]
 (.seq (sR [oL 10 5 2,
  oM 11 (.call (.c (.fn 45 [] [])) [(.t 10)]),
  oT 6 11]
 (sR [oT 12 6,
  oM 13 (.bin .neq (.t 12) (cI 0))]
 (.cond (.t 13) (sR [oT 14 6,
  oM 4 (.mov (.c (.nils))),
  oT 5 14]
 (.ret))
 (.skip))))
 (.seq (sR [oT 15 1,
  oM 16 (.bin .lss (.t 15) (cI 0)),
  oT 17 16,
  ⟨(some 18), .mov (.t 1), some (17, false)⟩,
  ⟨(some 19), .load (some 5) (.t 2), some (17, false)⟩,
  ⟨(some 20), .call (.c (.fn 46 [] [])) [(.t 19)], some (17, false)⟩,
  ⟨(some 21), .bin .geq (.t 18) (.t 20), some (17, false)⟩,
  oM 22 (.pick (.t 17) (.c (.bool true)) (.t 21))]
 (.cond (.t 22) (sR [oM 4 (.mov (.c (.nils))),
  oM 5 (.mov (cI 6))]
 (.ret))
 (.skip)))
 (.seq (sR [oT 23 1,
  oL 24 5 2,
  oM 25 (.call (.c (.fn 47 [] [])) [(.t 24)]),
  oM 26 (.bin .lss (.t 23) (.t 25))]
 (.cond (.t 26) (sR [oM 4 (.mov (.c (.nils))),
  oM 5 (.mov (cI 0))]
 (.ret))
 (.skip)))
 (.seq (.region [oF 27 2 2,
  oN 28 27,
  oT 29 1,
  oL 30 5 2,
  oM 31 (.call (.c (.fn 47 [] [])) [(.t 30)]),
  oM 32 (.bin .sub (.t 29) (.t 31)),
  oM 33 (.idxs 10 (.t 28) (.t 32)),
  oL 34 10 33,
  oM 7 (.alloc [.str [], .int .i64 0, .int .i64 0, .int .i64 0, .nils, .int .i64 0, .int .i64 0, .nils, .int .i64 0, .bool false]),
  ⟨none, .store 10 (.t 7) (.t 34), none⟩] (some [[], [0], [], [], [3], [2, 4], [1, 5], [6], [], [8, 7, 4, 0, 1, 2, 3, 4, 5, 6, 7, 8]]))
 (sR [oM 8 (.alloc [.nils])]
 (sR [oM 35 (.mkfn 48 [] [(.t 8)]),
  oT 9 35]
 (sR [oF 36 2 7,
  oL 37 3 36,
  oT 38 9,
  oM 39 (.call (.c (.fn 49 [] [])) [(.t 37), (.t 38)])]
 (sR [oF 40 5 7,
  oL 41 3 40,
  oT 42 9,
  oM 43 (.call (.c (.fn 49 [] [])) [(.t 41), (.t 42)])]
 (sR [oN 44 8,
  oM 45 (.call (.c (.fn 40 [] [])) [(.t 44)])]
 (sR [oN 46 8,
  oM 47 (.call (.c (.fn 41 [] [])) [(.t 46)]),
  oT 4 47,
  oM 5 (.mov (cI 0))]
 (.ret)))))))))))
theorem fn25 : env0.fn 25 = some ⟨48, ic25, [.t 4, .t 5]⟩ := by kernel_rfl
set_option maxHeartbeats 4000000 in
set_option maxRecDepth 100000 in
theorem uses25 {c : Ctl} (h : Ct c) {z : Nat} (hz : z < lnC c) : PF Tryz.prog 25 [.agg (cC c), .int .i64 (z : Nat)] (.tup [vsI (usZ c z), .int .i64 0]) := by
 have p45 := zum h;have p46 := zmo h.toSm;have p47 := zjv h.toSm;refine za6 env0_ok fn25 [(0, .agg (cC c)), (1, .int .i64 (z : Nat))] (y04 rfl) rfl fun w0 N0 => ?_;unfold ic25;refine zb4 ?_;refine za4 rfl rfl rfl (fun h3 => absurd (of_decide_eq_true h3) (by show ¬ ((z : Nat) : Int) >= ((lnC c : Nat) : Int); omega)) fun _ => ?_
 refine zb7 ?_;refine za4 rfl rfl rfl (fun h3 => ?_) fun h3 => ?_
 ·have h3 : ((z : Nat) : Int) < ((fsC c : Nat) : Int) := of_decide_eq_true h3;refine zbu ?_;refine zaa ⟨.inr rfl, _, rfl, ?_⟩;unfold usZ;rw [if_pos (by omega)];rfl
 have h3 : ¬ ((z : Nat) : Int) < ((fsC c : Nat) : Int) := of_decide_eq_false h3;obtain ⟨j, rfl⟩ : ∃ j, z = fsC c + j := ⟨z - fsC c, by omega⟩
 have hj : j < c.sg.length := by unfold lnC at hz; omega
 have hus : usZ c (fsC c + j) = usL c j := by
  unfold usZ;rw [if_neg (by omega), show fsC c + j - fsC c = j by omega]
 rw [hus];refine zl6 ?_;refine zc3 [] [(0, 0, cC c)] [(1, .int .i64 ((fsC c + j : Nat) : Int)), (2, .vptr (cC c))] rfl (.cons rfl rfl .nil) .nil (.cons rfl (.same rfl) (.cons rfl (.fptr rfl rfl) .nil)) ?_;refine reg25 h hj rfl rfl ?_;intro hp nx ck n t hn hl;have hmem : sgA c.sg j ∈ c.sg := by
  unfold sgA;rw [y0j, y0d hj];exact y0x hj
 obtain ⟨s1, s2⟩ := h.x1 _ hmem;obtain ⟨g1, g2⟩ := h.lg _ hmem;have n1 := zh3 (sgA c.sg j).on;have n2 := zh3 (sgA c.sg j).off;have m1 := ((zdp _).1 g1).1;have m2 := ((zdp _).1 g2).1;unfold usL;generalize sgA c.sg j = x at *;refine zc3 [] [(n, t, c10 x)] [(7, .vptr (c10 x))] rfl (.cons hl rfl .nil) .nil (.cons rfl (.fptr zf6 rfl) .nil) ?_;refine zsr rfl (zce (onu ?_));refine zc3 [(some (0, 1), [.ms 1 0 1 0 0 none]), (none, [])] [] [(7, .vptr (c10 x)), (8, .mptr 0 0 0)] rfl .nil (.cons rfl (.cons (.grow rfl) .nil) (.new .nil)) (.cons rfl (.same rfl) (.cons rfl (.mptr rfl) .nil)) ?_;refine zbh ?_;have e1 := zhv x.on;have e2 := zhv x.off;refine zhh _ rfl rfl (zbk (first := []) (cap := []) (args := [.agg (c3 x.on), .fn 48 [] [.mptr 0 0 0]]) (e1 ▸ zv4 (B := 1000) (ms := List.length) zw0 (step := fun s v => s ++ [v]) (fun s v => by rw [y0l]; exact y08 _) (fun s v H hl hI => zgo (add48 s v H hl hI)) x.on s1 ⟨_, _, _⟩ [] (by show 0 + _ <= 1000; omega) ⟨y08 _, 0, rfl, rfl⟩)) (fun _ _ _ _ hm => absurd hm y0c) ?_
 rintro v ⟨hp1, nx1, ck1⟩ ⟨hk1, hI1⟩;rw [zk0, y1y] at hI1;refine zb4 ?_;refine zhh _ rfl rfl (zbk (first := []) (cap := []) (args := [.agg (c3 x.off), .fn 48 [] [.mptr 0 0 0]]) (e2 ▸ zv4 (B := 1000) (ms := List.length) zw0 (step := fun s v => s ++ [v]) (fun s v => by rw [y0l]; exact y08 _) (fun s v H hl hI => zgo (add48 s v H hl hI)) x.off s2 ⟨_, _, _⟩ (ze3 x.on) (by omega) hI1)) (fun _ _ _ _ hm => absurd hm y0c) ?_;rintro v ⟨hp2, nx2, ck2⟩ ⟨hk2, hI2⟩;rw [zk0] at hI2;have hLl : (ze3 x.on ++ ze3 x.off).length <= 512 := by rw [y0l]; omega
 generalize ze3 x.on ++ ze3 x.off = L at *;obtain ⟨_, sp, h0, h1⟩ := hI2;refine onu ?_;by_cases hL : L = []
 ·subst hL;refine zc3 [(some (0, 0), [.vs []])] [(1, sp, [])] [(8, .mptr 0 0 0)] rfl (.cons h1 rfl .nil) (.cons h0 (.cons (.fms (cs := []) (xs := []) (by simp [fzl]) rfl (fun y hy => by cases hy) ⟨[], rfl⟩) .nil) .nil) (.cons rfl (.mptr rfl) .nil) ?_;refine zcj ?_;refine zal rfl rfl ints40 noC ?_;refine zcj ?_;refine zal rfl rfl zo8 noC ?_;refine zcj ?_;exact zaa ⟨.inr rfl, _, rfl, by rw [zuv]; rfl⟩
 ·refine zc3 [(some (0, 0), [.ms 1 0 1 0 L.length none]), (some (1, sp), L.map (AV.int .i64))] [] [(8, .mptr 0 0 0)] rfl .nil (.cons h0 (.cons (.ms rfl) .nil) (.cons h1 (.keep (zlq _)) .nil)) (.cons rfl (.mptr rfl) .nil) ?_;have hne2 : srt L ≠ [] := fun e => hL (by have := zfc L; rw [e] at this; exact y0k.1 this.symm)
  refine zcj ?_;refine zhh _ rfl rfl (zbk (ztq (cap := none) (zs := L) ent64 zx1 hL (by omega) rfl)) (fun _ _ _ _ hm => absurd hm y0c) ?_;rintro v _ ⟨rfl, rfl⟩;refine zcj ?_;refine zhh _ rfl (by rw [<- zfc L]; rfl) (zbk (zl9 (cap := none) (zs := srt L) (sp := 0) (id := 1) ent65 cpts65 hne2 (by rw [zfc]; omega) rfl)) (fun _ _ _ _ hm => absurd hm y0c) ?_;rintro v _ ⟨rfl, rfl⟩;refine zcj ?_;exact zaa ⟨.inr rfl, _, rfl, congrArg AV.tup (zwh (zky (J := (List.replicate ((srt L).length - (cps (srt L)).length) 0).map (AV.int .i64)) (cps (srt L)) rfl (by rw [<- y16]; rfl)) rfl)⟩
end Go.Proofs.YtdolbghhcijonaaGreat
namespace Go.Proofs.YtdolbghhcijonaaGreat
open Go Go.Am
theorem zmp {z : Int} : ∀ {l : List Int} {p : Int}, z ∈ l -> z = p \/ z ∈ zr6 p l
 | y :: l, p, h => by
  rw [zr6];split
  ·rename_i e;rcases y0f.1 h with rfl | h
   ·exact .inl e
   ·exact zmp h
  ·rcases y0f.1 h with rfl | h
   ·exact .inr (y01 ..)
   ·rcases zmp (p := y) h with e | h
    ·exact .inr (by rw [e]; exact y01 ..)
    ·exact .inr (y0a _ h)
theorem zmq {z : Int} : ∀ {l : List Int} {p : Int}, z ∈ zr6 p l -> z ∈ l
 | y :: l, p, h => by
  rw [zr6] at h;split at h
  ·exact y0a _ (zmq h)
  ·rcases y0f.1 h with rfl | h
   ·exact y01 ..
   ·exact y0a _ (zmq h)
theorem zuu {z : Int} {l : List Int} : z ∈ cps (srt l) ↔ z ∈ l := by
 rw [cps_eq];have hs : z ∈ srt l ↔ z ∈ l := List.mem_mergeSort;rw [<- hs];cases srt l with
 | nil => exact Iff.rfl
 | cons x t =>
  rw [cpt];constructor
  ·intro h;rcases y0f.1 h with rfl | h
   ·exact y01 ..
   ·exact y0a _ (zmq h)
  ·intro h;rcases y0f.1 h with rfl | h
   ·exact y01 ..
   ·rcases zmp (p := x) h with e | h
    ·rw [e]; exact y01 ..
    ·exact y0a _ h
theorem zse {c : Ctl} (h : Ct c) {z : Nat} (hz : z < lnC c) : ∀ v ∈ usZ c z, 0 <= v /\ v < (lnC c : Nat) := fun v hv => by
 unfold usZ at hv;split at hv
 ·cases hv
 ·rename_i h1;have hj : z - fsC c < c.sg.length := by unfold lnC at hz; omega
  unfold usL at hv;rcases y1n.1 (zuu.1 hv) with hv | hv
  ·exact zh4 (zhf (h.on _ hj)) hv
  ·by_cases e : (sgA c.sg (z - fsC c)).kd = 1
   ·exact zh4 (zhf (h.off _ hj e)) hv
   ·have := (h.zf _ hj e).1;generalize (sgA c.sg (z - fsC c)).off = x at *;obtain ⟨op, ix, args⟩ := x;unfold zxp at this;simp only [y0g, decide_eq_true_eq] at this;obtain ⟨e1, e2, e3⟩ := this;have e4 : op = 0 := e1;have e5 : args = [] := y0k.1 e3;clear e1 e3;subst e4 e5;rw [ze3, zg8] at hv;simp at hv
def znx (o l : List Int) : List Int := l.foldl (fun o k => if o.contains k = true then o else o ++ [k]) o
theorem zfq {c : Ctl} : ∀ (l o : List Int), o.Nodup -> (∀ z ∈ o, 0 <= z /\ z < (lnC c : Nat)) -> (∀ z ∈ l, 0 <= z /\ z < (lnC c : Nat)) ->
  (znx o l).Nodup /\ (∀ z ∈ znx o l, 0 <= z /\ z < (lnC c : Nat)) /\ (∃ t, znx o l = o ++ t) /\ ∀ z ∈ l, z ∈ znx o l
 | [], o, h1, h2, _ => ⟨h1, h2, ⟨[], (y0s o).symm⟩, fun z hz => by cases hz⟩
 | k :: l, o, h1, h2, h3 => by
  have e : znx o (k :: l) = znx (if o.contains k = true then o else o ++ [k]) l := rfl;rw [e];by_cases hk : o.contains k = true
  ·rw [if_pos hk];obtain ⟨a, b, ⟨t, ht⟩, d⟩ := zfq l o h1 h2 fun z hz => h3 z (y0a _ hz);refine ⟨a, b, ⟨t, ht⟩, fun z hz => ?_⟩;rcases y0f.1 hz with rfl | hz
   ·rw [ht];exact y1f _ (y1m.1 hk)
   ·exact d z hz
  ·rw [if_neg hk];have hk2 : k ∉ o := fun e => hk (y1m.2 e);obtain ⟨a, b, ⟨t, ht⟩, d⟩ := zfq (c := c) l (o ++ [k]) (List.nodup_append.2 ⟨h1, y2k.2 ⟨y0c, List.nodup_nil⟩, fun x hx y hy => by obtain rfl := y0o.1 hy; exact fun e => hk2 (e ▸ hx)⟩) (fun z hz => by
    rcases y1n.1 hz with hz | hz
    ·exact h2 z hz
    ·obtain rfl := y0o.1 hz;exact h3 _ (y01 ..)) fun z hz => h3 z (y0a _ hz)
   refine ⟨a, b, ⟨[k] ++ t, by rw [ht, y1w]⟩, fun z hz => ?_⟩;rcases y0f.1 hz with rfl | hz
   ·rw [ht];exact y1f _ (y1a _ (y0o.2 rfl))
   ·exact d z hz
def rcL (c : Ctl) (z : Nat) : Nat -> List Int
 | 0 => [((z : Nat) : Int)]
 | i + 1 => if i < (rcL c z i).length then znx (rcL c z i) (usZ c (zA (rcL c z i) i).toNat) else rcL c z i
def rcF (c : Ctl) (z : Nat) : List Int := rcL c z (lnC c)
theorem ze8 : ∀ {a b : List Int}, a.Nodup -> (∀ x ∈ a, x ∈ b) -> a.length <= b.length
 | [], _, _, _ => y0r _
 | x :: a, b, hn, hs => by
  obtain ⟨h1, h2⟩ := y2k.1 hn;have hx := hs x (y01 ..);have := ze8 (a := a) (b := b.erase x) h2 fun y hy => (List.mem_erase_of_ne (fun e => h1 (by rw [<- e]; exact hy))).2 (hs y (y0a _ hy));rw [List.length_erase_of_mem hx] at this;have := List.length_pos_of_mem hx;rw [y19];omega
section
variable {c : Ctl} {z : Nat}
theorem zpb {l : List Int} {i : Nat} (h : i < l.length) : zA l i ∈ l := by
 rw [zqj h];exact y0x h
theorem zp0 (h : Ct c) (hz : z < lnC c) : ∀ i, (rcL c z i).Nodup /\ ∀ v ∈ rcL c z i, 0 <= v /\ v < (lnC c : Nat)
 | 0 => ⟨y2k.2 ⟨y0c, List.nodup_nil⟩, fun v hv => by obtain rfl := y0o.1 hv; omega⟩
 | i + 1 => by
  obtain ⟨a, b⟩ := zp0 h hz i;have e : rcL c z (i + 1) = if i < (rcL c z i).length then znx (rcL c z i) (usZ c (zA (rcL c z i) i).toNat) else rcL c z i := rfl
  rw [e];split
  ·rename_i hi;have hm := b _ (zpb hi);obtain ⟨x, y, _, _⟩ := zfq (c := c) (usZ c (zA (rcL c z i) i).toNat) (rcL c z i) a b (zse h (by omega));exact ⟨x, y⟩
  ·exact ⟨a, b⟩
theorem zwj (h : Ct c) (hz : z < lnC c) (i : Nat) : (rcL c z i).length <= lnC c := by
 obtain ⟨a, b⟩ := zp0 h hz i;have := ze8 (b := (List.range (lnC c)).map fun n => ((n : Nat) : Int)) a fun x hx => by
  have := b x hx;exact y0p.2 ⟨x.toNat, y0m.2 (by omega), by omega⟩
 rw [y06, y1v] at this;exact this
theorem zp1 (h : Ct c) (hz : z < lnC c) (i : Nat) : ∀ k, ∃ t, rcL c z (i + k) = rcL c z i ++ t
 | 0 => ⟨[], (y0s _).symm⟩
 | k + 1 => by
  obtain ⟨t, ht⟩ := zp1 h hz i k;obtain ⟨a, b⟩ := zp0 h hz (i + k);have e : rcL c z (i + (k + 1)) = if i + k < (rcL c z (i + k)).length then znx (rcL c z (i + k)) (usZ c (zA (rcL c z (i + k)) (i + k)).toNat) else rcL c z (i + k) := rfl
  rw [e];split
  ·rename_i hi;have hm := b _ (zpb hi);obtain ⟨_, _, ⟨u, hu⟩, _⟩ := zfq (c := c) (usZ c (zA (rcL c z (i + k)) (i + k)).toNat) (rcL c z (i + k)) a b (zse h (by omega));exact ⟨t ++ u, by rw [hu, ht, y1w]⟩
  ·exact ⟨t, ht⟩
theorem zqa {i : Nat} (hi : ¬ i < (rcL c z i).length) : ∀ k, rcL c z (i + k) = rcL c z i
 | 0 => rfl
 | k + 1 => by
  have ih := zqa hi k;have e : rcL c z (i + (k + 1)) = if i + k < (rcL c z (i + k)).length then znx (rcL c z (i + k)) (usZ c (zA (rcL c z (i + k)) (i + k)).toNat) else rcL c z (i + k) := rfl
  rw [e, ih, if_neg (by omega)]
theorem rcF_mem (h : Ct c) (hz : z < lnC c) : ((z : Nat) : Int) ∈ rcF c z := by
 obtain ⟨t, ht⟩ := zp1 h hz 0 (lnC c);rw [y1b] at ht;unfold rcF;rw [ht];exact y1f _ (y0o.2 rfl)
theorem rcF_use (h : Ct c) (hz : z < lnC c) {v : Nat} (hv : ((v : Nat) : Int) ∈ rcF c z) : ∀ u ∈ usZ c v, u ∈ rcF c z := fun u hu => by
 unfold rcF at hv ⊢;obtain ⟨j, hj, e⟩ := y1g.1 hv;have hln := zwj h hz (lnC c);have hjj : j < (rcL c z j).length := y1j fun hn => by
  have := zqa hn (lnC c - j);rw [show j + (lnC c - j) = lnC c by omega] at this
  rw [this] at hj;exact hn hj
 obtain ⟨t, ht⟩ := zp1 h hz j (lnC c - j);rw [show j + (lnC c - j) = lnC c by omega] at ht
 obtain ⟨t2, ht2⟩ := zp1 h hz (j + 1) (lnC c - (j + 1));rw [show j + 1 + (lnC c - (j + 1)) = lnC c by omega] at ht2
 have ev : zA (rcL c z j) j = ((v : Nat) : Int) := by
  rw [zqj hjj, <- e];simp only [ht];rw [List.getElem_append_left hjj]
 obtain ⟨a, b⟩ := zp0 h hz j;have hm := b _ (zpb hjj);obtain ⟨_, _, _, d⟩ := zfq (c := c) (usZ c (zA (rcL c z j) j).toNat) (rcL c z j) a b (zse h (by omega));have e1 : rcL c z (j + 1) = znx (rcL c z j) (usZ c (zA (rcL c z j) j).toNat) := if_pos hjj;rw [ht2, e1];rw [ev, y1e] at d ⊢;exact y1f _ (d u hu)
theorem rcF_clo (h : Ct c) (hz : z < lnC c) : Clo c (rcF c z) := by
 have key : ∀ j, ((fsC c + j : Nat) : Int) ∈ rcF c z -> ∀ u, (u ∈ ze3 (sgA c.sg j).on \/ u ∈ ze3 (sgA c.sg j).off) -> u ∈ rcF c z := fun j hm u hu => by
  refine rcF_use h hz hm u ?_;unfold usZ usL;rw [if_neg (by omega), show fsC c + j - fsC c = j by omega]
  exact zuu.2 (y1n.2 hu)
 exact ⟨fun j _ hm u hu => key j hm u (.inl hu), fun j _ hm _ u hu => key j hm u (.inr hu)⟩
end
end Go.Proofs.YtdolbghhcijonaaGreat
namespace Go.Proofs.YtdolbghhcijonaaGreat
open Go Go.Am
set_option maxRecDepth 100000
def Lq (q : List Int) (w : AV) (hp : List (Nat × Nat × AObj)) (nx : Nat) : Prop :=
 (∃ a id sp, q = [a] /\ w = .ms id sp 1 0 1 (some 1) /\ Am.look id hp = some (sp, .cells [.int .i64 a]) /\ id < nx) \/ (q ≠ [] /\ ∃ id sp, w = .ms id sp 1 0 q.length none /\ Am.look id hp = some (sp, .cells (q.map (AV.int .i64))) /\ id < nx)
section
variable {q : List Int} {w : AV} {hp : List (Nat × Nat × AObj)} {nx : Nat}
theorem Lq.own (h : Lq q w hp nx) : ∃ id sp cap, w = .ms id sp 1 0 q.length cap /\ Am.look id hp = some (sp, .cells (q.map (AV.int .i64))) /\ id < nx := by
 rcases h with ⟨a, id, sp, rfl, e, hl, hn⟩ | ⟨_, id, sp, e, hl, hn⟩
 ·exact ⟨id, sp, _, e, hl, hn⟩
 ·exact ⟨id, sp, _, e, hl, hn⟩
theorem Lq.fresh (h : Lq q w hp nx) (ck : Nat) (x : AObj) : Lq q w ((nx, ck, x) :: hp) (nx + 1) := by
 rcases h with ⟨a, id, sp, e0, e, hl, hn⟩ | ⟨e0, id, sp, e, hl, hn⟩
 ·exact .inl ⟨a, id, sp, e0, e, (za5 hn).trans hl, by omega⟩
 ·exact .inr ⟨e0, id, sp, e, (za5 hn).trans hl, by omega⟩
theorem o_lapp {w0 : World} {N0 n d ck : Nat} {md : Md} {k : List Fr} {Q : Exit -> AS -> Prop} {l : List (Nat × AV)} {ios : List Opr} {bytes j sj : Nat} {x0 : Int} {z : List AV} {s x : Arg} (hF : Lq q w hp nx) (hlen : q.length <= 1000000) (hs : zar s l = some w) (hx : zar x l = some (.ms j sj 1 0 1 (some 1))) (hj : Am.look j hp = some (sj, .cells [.int .i64 x0])) (hb : bytes <= 16777216)
  (go : ∀ w' hp' nx' ck', Lq (q ++ [x0]) w' hp' nx' -> Om Tryz.prog w0 N0 md (KnP Tryz.prog w0 N0) ios (st n ((d, w') :: l) hp' nx' ck') k Q) :
  Om Tryz.prog w0 N0 md (KnP Tryz.prog w0 N0) (⟨some d, .append 1 bytes z s x, none⟩ :: ios) (st n l hp nx ck) k Q := by
 have hel : (st n l hp nx ck []).elems 1 (.ms j sj 1 0 1 (some 1)) = some [[.int .i64 x0]] := zf5 (xs := [[.int .i64 x0]]) (ys := []) hj rfl fun x hx => by obtain rfl := y0o.1 hx; rfl
 have hne : q ++ [x0] ≠ [] := fun e => by simp at e
 rcases hF with ⟨a, id, sp, rfl, rfl, hl, hn⟩ | ⟨_, id, sp, rfl, hl, hn⟩
 ·have hi : iop (st n l hp nx ck) (.append 1 bytes z s x) = some (.ms nx ck 1 0 2 none, st n l ((nx, ck, .cells [.int .i64 a, .int .i64 x0]) :: hp) (nx + 1) (ck + 1)) := by
   simp only [iop, zag, hs, hx, hel];unfold zbv;rw [if_neg (show ¬ [[AV.int .i64 x0]].length = 0 from Nat.succ_ne_zero 0), if_pos (show [[AV.int .i64 x0]].flatten.all AV.isCell = true /\ bytes <= 16777216 from ⟨rfl, hb⟩)]
   simp only [show (st n l hp nx ck []).heap = hp from rfl, hl]
   rw [if_pos (show True /\ True /\ 0 + 1 * 1 <= [AV.int .i64 a].length /\ 1 + [[AV.int .i64 x0]].length <= 1048576 from ⟨trivial, trivial, y08 1, (by show 2 <= 1048576; decide)⟩), if_neg (show ¬ 1 + [[AV.int .i64 x0]].length <= 1 from (by show ¬ 2 <= 1; decide))]
   rfl
  exact zdf hi (go _ _ _ _ (.inr ⟨hne, nx, ck, rfl, za3, y07 _⟩)) (fun _ _ _ _ _ _ _ => rfl)
 ·refine zgr [[.int .i64 x0]] hs hx hel (Nat.succ_ne_zero 0) rfl hb hl (by rw [y06, Nat.mul_one]) (by show q.length + 1 <= 1048576; omega) ?_ (fun _ _ _ _ _ _ _ => rfl)
  exact go _ _ _ _ (.inr ⟨hne, id, ck, by rw [y0l]; rfl, by rw [za0, if_pos rfl, y16]; rfl, hn⟩)
end
theorem us_len {c : Ctl} (h : Ct c) {z : Nat} (hz : z < lnC c) : (usZ c z).length <= 512 := by
 unfold usZ;split
 ·exact y0r _
 ·have hj : z - fsC c < c.sg.length := by unfold lnC at hz; omega
  have hmem : sgA c.sg (z - fsC c) ∈ c.sg := by
   unfold sgA;rw [y0j, y0d hj];exact y0x hj
  obtain ⟨g1, g2⟩ := h.lg _ hmem;have n1 := zh3 (sgA c.sg (z - fsC c)).on;have n2 := zh3 (sgA c.sg (z - fsC c)).off;have m1 := ((zdp _).1 g1).1;have m2 := ((zdp _).1 g2).1;unfold usL;refine y0u (zpp _) ?_;rw [zfc, y0l];omega
def b10_2 : IC := sR [oM 39 (.bin .lss (.t 38) (.t 37))]
 (.seq (.cond (.t 39) (.skip)
 (.exit 2))
 (.seq (.block 3 (sR [oM 40 (.idxs 1 (.t 36) (.t 38)),
  oN 41 40,
  oT 11 41]
 (sR [oT 42 6,
  oT 43 11,
  oM 44 (.call (.c (.fn 12 [] [])) [(.t 42), (.t 43)]),
  oM 45 (.un .not (.t 44))]
 (.cond (.t 45) (.region [oT 46 6,
  oT 47 11,
  oM 48 (.bslice 1 1 [.int .i64 0] [(0, 1, (.t 47))]),
  oM 49 (.append 1 8 [.int .i64 0] (.t 46) (.t 48)),
  oT 6 49] none)
 (.skip)))))
 (.region [oM 50 (.bin .add (.t 38) (cI 1)),
  oT 38 50] none)))
def b10_0 : IC := .seq (sR [oT 14 7,
  oT 15 6,
  oM 16 (.len false (.t 15)),
  oM 17 (.bin .lss (.t 14) (.t 16))]
 (.cond (.t 17) (.skip)
 (.exit 0)))
 (.seq (.block 1 (.seq (.region [oL 21 5 2,
  oT 22 6,
  oT 23 7,
  oM 24 (.idxs 1 (.t 22) (.t 23)),
  oN 25 24,
  oM 26 (.call (.c (.fn 25 [] [])) [(.t 21), (.t 25)]),
  oT 20 26,
  oM 27 (.extract (.t 20) 0),
  oM 28 (.extract (.t 20) 1),
  oT 8 27,
  oT 9 28] (some [[], [], [], [1, 2], [3], [0, 4], [5], [6], [6], [7, 5, 0, 1, 2, 3, 4, 5, 6, 7], [8, 9, 0, 1, 2, 3, 4, 5, 6, 7, 8, 9]]))
 (.seq (sR [oT 29 9,
  oM 30 (.bin .neq (.t 29) (cI 0)),
  oT 31 30,
  ⟨(some 32), .mov (.t 6), some (31, false)⟩,
  ⟨(some 33), .len false (.t 32), some (31, false)⟩,
  ⟨(some 34), .bin .gtr (.t 33) (cI 1000), some (31, false)⟩,
  oM 35 (.pick (.t 31) (.c (.bool true)) (.t 34))]
 (.cond (.t 35) (sR [oM 4 (.mov (.c (.nils))),
  oM 5 (.mov (.c (.bool false)))]
 (.ret))
 (.skip)))
 (sR [oT 36 8,
  oM 37 (.len false (.t 36)),
  oM 38 (.mov (cI 0))]
 (.block 2 (.loop b10_2))))))
 (.region [oT 18 7,
  oM 19 (.bin .add (.t 18) (cI 1)),
  oT 7 19] none))
-- pneumatic/pneumatictop.tryReached
def ic10 : IC := sR [oM 2 (.box (.t 0)),
  oM 4 (.mov (.c (.nils))),
  oM 5 (.mov (.c (.bool false)))]
 (sR [oT 12 1,
  oM 13 (.bslice 1 1 [.int .i64 0] [(0, 1, (.t 12))]),
  oT 6 13]
 (.seq (sR [oM 7 (.mov (cI 0))]
 (.block 0 (.loop b10_0)))
 (sR [oT 51 6,
  oT 4 51,
  oM 5 (.mov (.c (.bool true)))]
 (.ret))))
theorem fn10 : env0.fn 10 = some ⟨52, ic10, [.t 4, .t 5]⟩ := by kernel_rfl
set_option maxHeartbeats 4000000 in
set_option maxRecDepth 100000 in
theorem zwk {c : Ctl} (h : Ct c) {z : Nat} (hz : z < lnC c) : PF Tryz.prog 10 [.agg (cC c), .int .i64 (z : Nat)] (.tup [vsI (rcF c z), .bool true]) := by
 have s16 := h.s16;have a6 := h.a6;have a1 := h.a1;have i16 := h.i16;have hln : lnC c <= 44 := by unfold lnC fsC; omega
 refine za6 env0_ok fn10 [(0, .agg (cC c)), (1, .int .i64 (z : Nat))] (y04 rfl) rfl fun w0 N0 => ?_;unfold ic10;refine zsr rfl (zd6 rfl rfl (zan rfl (zan rfl (onu ?_))));refine zc3 [] [(0, 0, cC c)] [(1, .int .i64 (z : Nat)), (2, .vptr (cC c))] rfl (.cons rfl rfl .nil) .nil (.cons rfl (.same rfl) (.cons rfl (.fptr rfl rfl) .nil)) ?_;refine ze6 ?_;refine zav (fun mm S => ∃ (i : Nat) (w : AV) (hp : List (Nat × Nat × AObj)) (nx ck : Nat), mm = lnC c - i /\ i <= (rcL c z i).length /\ Lq (rcL c z i) w hp nx /\ S = st 52 [(2, .vptr (cC c)), (6, w), (7, .int .i64 (i : Nat))] hp nx ck) (lnC c)
  skp ⟨0, _, _, _, _, rfl, y0r _, .inl ⟨((z : Nat) : Int), _, _, rfl, rfl, za3, y07 _⟩, rfl⟩ ?_
 rintro mm S ⟨i, w, hp, nx, ck, rfl, hi, hL, rfl⟩;unfold b10_0;have hlen := zwj h hz i;obtain ⟨nd, rg⟩ := zp0 h hz i;have hrs : i < (rcL c z i).length -> rcL c z (i + 1) = znx (rcL c z i) (usZ c (zA (rcL c z i) i).toNat) := fun h => if_pos h;have hstop := fun (h : ¬ i < (rcL c z i).length) => zqa h (lnC c - i);have hFi : i + (lnC c - i) = lnC c := by omega
 rw [hFi] at hstop;unfold rcF;have hnx := zp1 h hz i 1;generalize rcL c z i = o at *;obtain ⟨id, sp, cap, rfl, hlk, hid⟩ := hL.own;refine zi2 ?_;refine za4 rfl rfl rfl (fun h3 => ?_) fun h3 => ?_
 ·have hlt : i < o.length := y1i.1 (of_decide_eq_true h3);have hrs := hrs hlt;have hm := rg _ (zpb hlt);have hzz : ((zA o i).toNat : Int) = zA o i := by omega
  have p25 := uses25 h (z := (zA o i).toNat) (by omega);have hrg := zse h (z := (zA o i).toNat) (by omega);have hul := us_len h (z := (zA o i).toNat) (by omega);rw [hzz] at p25;have w1 := za7 i (by omega);have hdv : (o.map (AV.int .i64)).drop (0 + ((i : Nat) : Int).toNat * 1) = .int .i64 (zA o i) :: (o.map (AV.int .i64)).drop (i + 1) := by
   rw [show 0 + ((i : Nat) : Int).toNat * 1 = i by simp, y0q (by rw [y06]; exact hlt), List.getElem_map, zqj hlt]
  refine zog ?_;refine zc2 env0_ok _ (hL1 p25) (fun f => Nat.beq f 25) rfl rfl rfl ?_;refine ze6 ?_;refine zab rfl hlk hid hdv ?_;refine ze6 ?_;refine za4 rfl rfl rfl (fun h4 => absurd (of_decide_eq_true h4) (by omega)) fun _ => ?_;refine zi2 ?_;generalize usZ c (zA o i).toNat = l at *;have hll : (l.map fun z => ([.int .i64 z] : List AV)).length = l.length := y06 ..;refine zav (fun mm S => ∃ (j : Nat) (cur : List Int) (w : AV) (hp : List (Nat × Nat × AObj)) (nx ck : Nat), mm = l.length - j /\ j <= l.length /\ znx cur (l.drop j) = znx o l /\ cur.Nodup /\ (∀ z ∈ cur, 0 <= z /\ z < (lnC c : Nat)) /\ Lq cur w hp nx /\ S = st 52 [(2, .vptr (cC c)), (6, w), (7, .int .i64 (i : Nat)), (36, vsI l), (37, .int .i64 (l.length : Nat)), (38, .int .i64 (j : Nat))] hp nx ck) l.length
   (zb9 (.cons rfl (.cons rfl (.cons rfl (.cons rfl (.cons (by rw [<- hll]; rfl) (.cons rfl .nil))))))) ⟨0, o, _, _, _, _, rfl, y0r _, rfl, nd, rg, hL, rfl⟩ ?_
  rintro mm S ⟨j, cur, w, hp1, nx1, ck1, rfl, hj, hadd, nd1, rg1, hL1, rfl⟩;unfold b10_2;refine zk4 ?_;have hcl : cur.length <= lnC c := by
   have := ze8 (b := (List.range (lnC c)).map fun n => ((n : Nat) : Int)) nd1 fun x hx => by
    have := rg1 x hx;exact y0p.2 ⟨x.toNat, y0m.2 (by omega), by omega⟩
   rw [y06, y1v] at this;exact this
  refine za4 rfl rfl rfl (fun h5 => ?_) fun h5 => ?_
  ·have hjl : j < l.length := y1i.1 (of_decide_eq_true h5);have hge := zij hjl;have hze : zA l j = l[j] := zqj hjl;rw [y0q hjl, <- hze] at hadd;have hadd : znx (if cur.contains (zA l j) = true then cur else cur ++ [zA l j]) (l.drop (j + 1)) = znx o l := hadd;have hzr := hrg _ (zpb hjl);have p12 := zlj cur (zA l j) (by omega);generalize zA l j = v at *;have w2 := za7 j (by omega);obtain ⟨id1, sp1, cap1, rfl, hlk1, hid1⟩ := hL1.own;refine zfk ?_;refine zal rfl (congrArg (fun x => [x, AV.int .i64 v]) (zds cur rfl hlk1)) p12 (fun _ => rfl) ?_;refine zk5 ?_;cases hc : cur.contains v with
   | true =>
    rw [hc] at hadd;refine zi2 ?_;rw [w2];exact zad (show l.length - (j + 1) < l.length - j by omega) skp ⟨j + 1, cur, _, _, _, _, rfl, hjl, hadd, nd1, rg1, hL1, rfl⟩
   | false =>
    rw [hc] at hadd;have hc2 : v ∉ cur := fun e => by rw [y1m.2 e] at hc; cases hc
    refine ze6 ?_;refine o_lapp (hL1.fresh _ _) (by omega) rfl rfl za3 (by decide) ?_;intro w' hp2 nx2 ck2 hL2;refine zi2 ?_;rw [w2];refine zad (show l.length - (j + 1) < l.length - j by omega) skp ⟨j + 1, cur ++ [v], _, _, _, _, rfl, hjl, hadd, List.nodup_append.2 ⟨nd1, y2k.2 ⟨y0c, List.nodup_nil⟩, fun x hx y hy => by obtain rfl := y0o.1 hy; exact fun e => hc2 (e ▸ hx)⟩, fun x hx => ?_, hL2, rfl⟩
    rcases y1n.1 hx with hx | hx
    ·exact rg1 x hx
    ·obtain rfl := y0o.1 hx;exact hzr
  ·have hje : j = l.length := by
    have : ¬ j < l.length := fun h => of_decide_eq_false h5 (y1i.2 h);omega
   rw [hje, y1l] at hadd;have hadd : cur = znx o l := hadd;refine zfk ?_;refine zbq ?_;refine zfk ?_;rw [w1];obtain ⟨t, ht⟩ := hnx;refine zad (show lnC c - (i + 1) < lnC c - i by omega) skp ⟨i + 1, _, _, _, _, rfl, ?_, ?_, rfl⟩
   ·rw [ht, y0l]; omega
   ·rw [hrs, <- hadd]; exact hL1
 ·have hge : ¬ i < o.length := fun h => of_decide_eq_false h3 (y1i.2 h);rw [hstop hge];refine zfk ?_;refine zbq ?_;refine zfk ?_;exact zaa ⟨.inr rfl, _, rfl, congrArg AV.tup (zwh (zds o rfl hlk) rfl)⟩
end Go.Proofs.YtdolbghhcijonaaGreat
