/- build of the reference: the term of a reading; its parts joined. -/
import Derived.Test.YtchllommcolijaaGreatDoorH95c4a61c
import Derived.Test.YtchllommcolijaaGreatDoorH6b302d7f
import Derived.Test.YtchllommcolijaaGreatDoorH82caee23
import Derived.Test.YtchllommcolijaaGreatDoorH0151eb6b
namespace Go.Proofs.YtchllommcolijaaGreatDoor.El
open At Ch Sp Sy Go.RowKit
theorem zMw (okr ok:Nat→Prop)(g:Nat)(A:Option Addr)(cap:Nat)(rs:List Rul)(Ai:Option Addr)(ci:Nat)(its:List Tre)(Apt:Option Addr)(cpt:Nat)(xs:List (List Trm))(vp vk:Value)(hrn:rs.length≤1000000)(hfs:∀n∈its,zB8 n=true∧n.kind≠1)(hys:∀y∈xs,y.length≤1000)(hkr:∀u∈rs,u.kind=1∨u.kind=2∨u.kind=3∨u.kind=4)(hnm:∀u∈rs,u.nam.size≤9223372036854775807):∀m:Nat,BuC okr ok g A cap rs Ai ci its Apt cpt xs vp vk m
 |0=>fun x _ _ _ _ hm=>absurd (zI3 x) (by omega)
 |m+1=>zE5.out (fun _=>zZe) (fun _=>zYn) (fun _=>zYu) (fun _=>zYg) okr ok g A cap rs Ai ci its Apt cpt xs vp vk hrn hfs hys hkr hnm m (zMw okr ok g A cap rs Ai ci its Apt cpt xs vp vk hrn hfs hys hkr hnm m)
end Go.Proofs.YtchllommcolijaaGreatDoor.El
