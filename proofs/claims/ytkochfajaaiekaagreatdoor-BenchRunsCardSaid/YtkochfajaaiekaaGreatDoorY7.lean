/- Laws. -/
import Derived.Test.YtkochfajaaiekaaGreatDoorY6
set_option linter.all false
set_option maxHeartbeats 16000000
set_option maxRecDepth 100000
namespace Go.Proofs.YtkochfajaaiekaaGreatDoor
open Go.Proofs.Tryz
abbrev Hdr:=List (La_)
def zfz(n:Nat):La_:=zw (UInt64.ofNat n)
def rowS(n:Nat):List (La_):=xZ 16 (zfz n) []
def XV(n:Nat)(pass secret:La_):La_:=Z4 (qy pass) (rowS n) 16 secret
def uM(n:Nat)(pass b:La_):Option (La_):=Qh (qy pass) (rowS n) 16 b
def Xu(n:Nat)(pass secret:La_):(XV n pass secret).length=secret.length+16:=Jt _ _ _ _
def th(n:Nat)(pass secret:La_):uM n pass (XV n pass secret)=some secret:=BJ _ _ _ _
def D6:Nat->Hdr->List Nat
 | _,[]=>[]
 | n,b::r=>if b.length=0 then D6 (n+1) r else n::D6 (n+1) r
def Yy(pass:La_):Nat->Hdr->Option (La_×Nat)
 | _,[]=>none
 | n,b::r=>if b.length=0 then Yy pass (n+1) r else match uM n pass b with
  | some m=>some (m,n)
  | none=>Yy pass (n+1) r
def nH(pass:La_)(s:Hdr):Option (La_×Nat):=Yy pass 0 s
def a0v(s:Hdr):Prop:=∀b∈s,b.length=0\/17<=b.length/\b.length<=80
def KW:Hdr:=List.replicate 8 []
def door:La_:=[100,111,111,114]

