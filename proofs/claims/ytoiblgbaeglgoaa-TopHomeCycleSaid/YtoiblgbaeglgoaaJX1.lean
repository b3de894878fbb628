/-
  THE SEAT's CODE, READ, AND THE CHAPTER's EXAMPLES: known calls, run by the kernel (1).
-/
import Derived.Test.YtoiblgbaeglgoaaJA10
import Derived.KernelRfl
import Derived.Test.YtoiblgbaeglgoaaChecked
namespace Go.Proofs.Ytoiblgbaeglgoaa
open Go Go.Am
abbrev oF (d i a : Nat) : Opr := ⟨some d, .faddr i (.t a), none⟩
abbrev oL (d m a : Nat) : Opr := ⟨some d, .load (some m) (.t a), none⟩
abbrev oM (d : Nat) (op : IOp) : Opr := ⟨some d, op, none⟩
abbrev oN (d a : Nat) : Opr := ⟨some d, .load none (.t a), none⟩
abbrev oT (d a : Nat) : Opr := ⟨some d, .mov (.t a), none⟩
theorem noC {p : Prop} (h : false = true) : p := Bool.noConfusion h
section
variable {P : Program} {w0 : World} {N0 : Nat} {S : AS} {k : List Fr} {Q : Exit → AS → Prop} {pf : Kn} {ios : List Opr} {md : Md} {y : IC}
theorem zsr (hd : (ios.all fun io => zcj S.size io.dst) = true) (h : Om P w0 N0 md (KnP P w0 N0) ios S (.seq y :: k) Q) : Zm P w0 N0 md (.seq (.region ios none) y) S k Q := za8 (za5 hd h)
theorem onu (h : Zm P w0 N0 md y S k Q) : Om P w0 N0 md pf [] S (.seq y :: k) Q := zai (zaa h)
theorem onr (hd : (ios.all fun io => zcj S.size io.dst) = true) (h : Om P w0 N0 md (KnP P w0 N0) ios S (.seq y :: k) Q) : Om P w0 N0 md pf [] S (.seq (.seq (.region ios none) y) :: k) Q := zai (zaa (za8 (za5 hd h)))
theorem onR (hd : (ios.all fun io => zcj S.size io.dst) = true) (h : Om P w0 N0 md (KnP P w0 N0) ios S k Q) : Om P w0 N0 md pf [] S (.seq (.region ios none) :: k) Q := zai (zaa (za5 hd h))
end
noncomputable def env0 : Env := envOf Try.prog 10000
theorem env0_ok : EnvOk Try.prog env0 := envOf_ok 10000 (by kernel_rfl)
end Go.Proofs.Ytoiblgbaeglgoaa
