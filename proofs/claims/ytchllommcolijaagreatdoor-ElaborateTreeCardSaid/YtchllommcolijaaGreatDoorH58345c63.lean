/- all of the reference: its parts joined. -/
import Derived.Test.YtchllommcolijaaGreatDoorHdc5d04ca
import Derived.Test.YtchllommcolijaaGreatDoorHdb7f1d3e
import Derived.Test.YtchllommcolijaaGreatDoorH32f453ca
import Derived.Test.YtchllommcolijaaGreatDoorHa6954db9
namespace Go.Proofs.YtchllommcolijaaGreatDoor.Ch
open Go.RowKit
theorem zW0 (A T:Option Addr)(cap cT:Nat)(rs:List Rul)(ts:List ByteArray)(HV8:Hid (zAj rs=true))(hr8:rs.length≤64)(ht6:ts.length≤7):∀m:Nat,AllC A T cap cT rs ts m
 |0=>rall_zero A T cap cT rs ts
 |m+1=>rall_pack.out (fun _=>rall_packr.out (fun _=>rall_a) (fun _=>rall_b) (fun _=>rall_c) (fun _=>rall_d)) A T cap cT rs ts HV8 hr8 ht6 m (zW0 A T cap cT rs ts HV8 hr8 ht6 m)
end Go.Proofs.YtchllommcolijaaGreatDoor.Ch
