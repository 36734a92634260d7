/- A number's decimal digits, as the references write them: contracts. No conditions but the numbers' bounds. -/
import Derived.Test.YtflepnkpihfidaaGreatDoorJConfL
import Derived.Test.YtflepnkpihfidaaGreatDoorShelf
import Derived.Test.YtflepnkpihfidaaGreatDoorTab
set_option linter.unusedVariables false
set_option linter.unusedSimpArgs false
namespace Go.Proofs.YtflepnkpihfidaaGreatDoor
open Lib (hid)
open Go.RowKit
theorem dec_len19 {m:Nat} (h:m≤9223372036854775807):(Lib.decDigits m).length≤19:=(dec_len m 19 (by omega) (by omega)).2
theorem itoa_len {m:Nat} (h:m≤9223372036854775807):(Lib.itoa (m:Int)).length≤19:=by rw [itoa_nat];exact dec_len19 h
set_option maxHeartbeats 1000000 in
theorem fmtInt_any (n:Int) (w:World) (hp:Pw w) (h0:-9223372036854775808≤n) (h1:n≤9223372036854775807):Calls Tryz.prog 119 #[.int .i64 n,.int .i64 10] w fun e w'=>e=.returned (str (Lib.itoa n))∧Gr w w':=by
 have HP:=hid hp
 clear hp
 go_enter Tryz.func119,Tryz.ntmps119
 go_wp2_with (go_at_call 195;refine (Tryz.internal_strconv_FormatInt_10 n h0 h1 w HP.out).mono ?_;rintro e w1 ⟨rfl,k,os,hw⟩)
 go_ret
 exact ⟨rfl,by subst hw;exact gr_grow w k os⟩
end Go.Proofs.YtflepnkpihfidaaGreatDoor
