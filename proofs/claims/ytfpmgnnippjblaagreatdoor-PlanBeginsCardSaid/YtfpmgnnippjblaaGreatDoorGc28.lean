/- X5 -/
import Derived.Test.YtfpmgnnippjblaaGreatDoorGc15
set_option linter.all false
set_option maxRecDepth 100000
set_option maxHeartbeats 0
namespace Go.Gv
open Go.Proofs X
def qvr:(sX ⟨#[97,46,42]⟩ ⟨#[97]⟩ false && sX ⟨#[97,46,42]⟩ ⟨#[97]⟩ true)=true:=by kernel_rfl
def qvq:(sX ⟨#[97,46,42]⟩ ⟨#[98]⟩ false && sX ⟨#[97,46,42]⟩ ⟨#[98]⟩ true)=true:=by kernel_rfl
def qvp:(sX ⟨#[97,46,42]⟩ ⟨#[99]⟩ false && sX ⟨#[97,46,42]⟩ ⟨#[99]⟩ true)=true:=by kernel_rfl
def qvo:(sX ⟨#[97,46,42]⟩ ⟨#[65]⟩ false && sX ⟨#[97,46,42]⟩ ⟨#[65]⟩ true)=true:=by kernel_rfl
def qvn:(sX ⟨#[97,46,42]⟩ ⟨#[97,98]⟩ false && sX ⟨#[97,46,42]⟩ ⟨#[97,98]⟩ true)=true:=by kernel_rfl
def qvm:(sX ⟨#[97,46,42]⟩ ⟨#[]⟩ false && sX ⟨#[97,46,42]⟩ ⟨#[]⟩ true)=true:=by kernel_rfl
def qvl:(sX ⟨#[97,46,42]⟩ ⟨#[88]⟩ false && sX ⟨#[97,46,42]⟩ ⟨#[88]⟩ true)=true:=by kernel_rfl
def qvk:(sX ⟨#[97,46,42]⟩ ⟨#[89]⟩ false && sX ⟨#[97,46,42]⟩ ⟨#[89]⟩ true)=true:=by kernel_rfl
def qFI:IR ⟨#[97,46,42]⟩=true:=by
 unfold IR;refine qGa.2 λw a=>?_
 simp only[WT,DW,QM,qG4,qG1,qGm,qGz,or_false]at a;rcases a with rfl|rfl|rfl|rfl|rfl|rfl|rfl|rfl
 ·exact qvr
 ·exact qvq
 ·exact qvp
 ·exact qvo
 ·exact qvn
 ·exact qvm
 ·exact qvl
 ·exact qvk
def qvj:(sX ⟨#[97,124,98]⟩ ⟨#[97]⟩ false && sX ⟨#[97,124,98]⟩ ⟨#[97]⟩ true)=true:=by kernel_rfl
def qvi:(sX ⟨#[97,124,98]⟩ ⟨#[98]⟩ false && sX ⟨#[97,124,98]⟩ ⟨#[98]⟩ true)=true:=by kernel_rfl
def qvh:(sX ⟨#[97,124,98]⟩ ⟨#[99]⟩ false && sX ⟨#[97,124,98]⟩ ⟨#[99]⟩ true)=true:=by kernel_rfl
def qvg:(sX ⟨#[97,124,98]⟩ ⟨#[65]⟩ false && sX ⟨#[97,124,98]⟩ ⟨#[65]⟩ true)=true:=by kernel_rfl
def qvf:(sX ⟨#[97,124,98]⟩ ⟨#[97,98]⟩ false && sX ⟨#[97,124,98]⟩ ⟨#[97,98]⟩ true)=true:=by kernel_rfl
def qve:(sX ⟨#[97,124,98]⟩ ⟨#[]⟩ false && sX ⟨#[97,124,98]⟩ ⟨#[]⟩ true)=true:=by kernel_rfl
def qvd:(sX ⟨#[97,124,98]⟩ ⟨#[88]⟩ false && sX ⟨#[97,124,98]⟩ ⟨#[88]⟩ true)=true:=by kernel_rfl
def qvc:(sX ⟨#[97,124,98]⟩ ⟨#[89]⟩ false && sX ⟨#[97,124,98]⟩ ⟨#[89]⟩ true)=true:=by kernel_rfl
def qFD:IR ⟨#[97,124,98]⟩=true:=by
 unfold IR;refine qGa.2 λw a=>?_
 simp only[WT,DW,QM,qG4,qG1,qGm,qGz,or_false]at a;rcases a with rfl|rfl|rfl|rfl|rfl|rfl|rfl|rfl
 ·exact qvj
 ·exact qvi
 ·exact qvh
 ·exact qvg
 ·exact qvf
 ·exact qve
 ·exact qvd
 ·exact qvc
def qvb:(sX ⟨#[97,124,88]⟩ ⟨#[97]⟩ false && sX ⟨#[97,124,88]⟩ ⟨#[97]⟩ true)=true:=by kernel_rfl
def qva:(sX ⟨#[97,124,88]⟩ ⟨#[98]⟩ false && sX ⟨#[97,124,88]⟩ ⟨#[98]⟩ true)=true:=by kernel_rfl
def qu9:(sX ⟨#[97,124,88]⟩ ⟨#[99]⟩ false && sX ⟨#[97,124,88]⟩ ⟨#[99]⟩ true)=true:=by kernel_rfl
def qu8:(sX ⟨#[97,124,88]⟩ ⟨#[65]⟩ false && sX ⟨#[97,124,88]⟩ ⟨#[65]⟩ true)=true:=by kernel_rfl
def qu7:(sX ⟨#[97,124,88]⟩ ⟨#[97,98]⟩ false && sX ⟨#[97,124,88]⟩ ⟨#[97,98]⟩ true)=true:=by kernel_rfl
def qu6:(sX ⟨#[97,124,88]⟩ ⟨#[]⟩ false && sX ⟨#[97,124,88]⟩ ⟨#[]⟩ true)=true:=by kernel_rfl
def qu5:(sX ⟨#[97,124,88]⟩ ⟨#[88]⟩ false && sX ⟨#[97,124,88]⟩ ⟨#[88]⟩ true)=true:=by kernel_rfl
def qu4:(sX ⟨#[97,124,88]⟩ ⟨#[89]⟩ false && sX ⟨#[97,124,88]⟩ ⟨#[89]⟩ true)=true:=by kernel_rfl
def qFB:IR ⟨#[97,124,88]⟩=true:=by
 unfold IR;refine qGa.2 λw a=>?_
 simp only[WT,DW,QM,qG4,qG1,qGm,qGz,or_false]at a;rcases a with rfl|rfl|rfl|rfl|rfl|rfl|rfl|rfl
 ·exact qvb
 ·exact qva
 ·exact qu9
 ·exact qu8
 ·exact qu7
 ·exact qu6
 ·exact qu5
 ·exact qu4
end Go.Gv
