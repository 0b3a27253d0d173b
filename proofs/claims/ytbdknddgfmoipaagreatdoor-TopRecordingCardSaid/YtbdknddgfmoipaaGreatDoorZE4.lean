import Derived.KernelRfl
import Derived.Test.YtbdknddgfmoipaaGreatDoorProg
import Derived.Test.YtbdknddgfmoipaaGreatDoorZE1
set_option linter.unusedVariables false
set_option linter.unusedSimpArgs false
/- cuecardtop.alive: true, in every world in which the three variables that it reads are laid. -/
namespace Go.Ev
open Go Go.Proofs
noncomputable section

def hook : Hook := fun _ _ _ => none
def fv (n : Nat) : Value := .func (.func n) #[] #[]
def s00 : St := { h := .nil, n := 11 }
def s01 (e : TypeId) : St := s00.put 1 (.cells [.int .i64 1, .int .i64 0] e 2 false)
def deeds : List Value := [fv 251, fv 252, fv 253, .nilFunc, fv 254, fv 255, fv 256, fv 257]
def ways : List Value := [.nilFunc, fv 238, fv 239, fv 240]
def s02 (e1 e2 : TypeId) : St := (s01 e1).put 2 (.cells deeds e2 2 false)
def s03 (e0 e1 e2 : TypeId) : St := (s02 e1 e2).put 0 (.cells ways e0 2 false)
def isTrue : Ex → Bool
  | .vl (.bool b) _ => b
  | _ => false

theorem alive_ev (e0 e1 e2 : TypeId) : isTrue (ev Tryz.prog hook 100000 (.call 7 []) (s03 e0 e1 e2)) = true := by kernel_rfl

end
end Go.Ev
