/- X4 -/
import Derived.Test.YtfpmgnnippjblaaGreatDoorGc15
set_option linter.all false
set_option maxRecDepth 100000
set_option maxHeartbeats 0
namespace Go.Gv
open Go.Proofs X
def qFK:IR ⟨#[97]⟩=true:=by kernel_rfl
def qFJ:IR ⟨#[98]⟩=true:=by kernel_rfl
def qFH:IR ⟨#[91,97,98,93]⟩=true:=by kernel_rfl
def qFG:IR ⟨#[88]⟩=true:=by kernel_rfl
def qFF:IR ⟨#[]⟩=true:=by kernel_rfl
def qFE:IR ⟨#[99,63]⟩=true:=by kernel_rfl
def qFC:IR ⟨#[89]⟩=true:=by kernel_rfl
end Go.Gv
