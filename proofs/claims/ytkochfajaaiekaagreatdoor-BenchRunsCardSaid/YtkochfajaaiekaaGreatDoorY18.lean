/- Laws. -/
import Derived.Test.YtkochfajaaiekaaGreatDoorY8
import Derived.Test.YtkochfajaaiekaaGreatDoorY9
set_option linter.all false
set_option maxHeartbeats 16000000
set_option maxRecDepth 100000
namespace Go.Proofs.YtkochfajaaiekaaGreatDoor
open Go.Proofs.Tryz
open ChangeShapes WideShapes RowKit Deep WideElems Maps Joins
section
variable{H:Type}{enc:TypeId×Value->H}{P:Program}{w:World}{base:Nat}{spare:Nat->Bool}{held:Bool}
end
def byte_wf{n:Int}(h:(Lit.int .u8 n).wf=true):∃x:UInt8,n=(x.toNat:Int):=by have aF:0<=n/\n<=255:=dr;refine⟨UInt8.ofNat n.toNat,?_⟩;rw[UInt8.toNat_ofNat_of_lt' bw];omega

