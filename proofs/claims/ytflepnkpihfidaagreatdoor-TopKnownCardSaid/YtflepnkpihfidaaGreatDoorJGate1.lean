/- Parts. No conditions but those that each theorem names. -/
import Derived.Test.YtflepnkpihfidaaGreatDoorJChunk
import Derived.Test.YtflepnkpihfidaaGreatDoorJMulti
import Derived.Test.YtflepnkpihfidaaGreatDoorJHead3
import Derived.Test.YtflepnkpihfidaaGreatDoorJCond3
set_option linter.unusedVariables false
set_option linter.unusedSimpArgs false
namespace Go.Proofs.YtflepnkpihfidaaGreatDoor
open Go.RowKit
def lengthN:List UInt8:=[67,111,110,116,101,110,116,45,76,101,110,103,116,104]
def codingN:List UInt8:=[84,114,97,110,115,102,101,114,45,69,110,99,111,100,105,110,103]
theorem getN_found (l:List Fld) (n:List UInt8):(getN l n).2=!(decide ((ofN l n).length=0)):=by
 unfold getN
 cases ofN l n <;> simp
end Go.Proofs.YtflepnkpihfidaaGreatDoor
namespace Go.Proofs.YtflepnkpihfidaaGreatDoor
open Go.RowKit
theorem PutM.base {w x w':World} {r:List UInt8×Nat} {e:Ending} (h:PutM x r e w') (g:Gr w x):PutM w r e w':=by
 obtain ⟨A,c,he,hg,h⟩:=h
 refine ⟨A,c,he,Gr.tr g hg,?_⟩
 rcases h with ⟨h,hm⟩ | h
 ·exact .inl ⟨h,hm.base g.size⟩
 ·exact .inr h
theorem own_base45 {W0 W1 w:World} {e:TypeId} {size n:Nat} {v:Value} {xs:List Value} (h:Own W1 w e size v n xs) (hb:W0.heap.size≤W1.heap.size):Own W0 w e size v n xs:=by
 refine ⟨h.1,?_⟩
 rcases h.2 with hn | ⟨b,cap,cur,hv,hbb,r⟩
 ·exact .inl hn
 ·exact .inr ⟨b,cap,cur,hv,Nat.le_trans hb hbb,r⟩
theorem own_set45 {W0 w:World} {e:TypeId} {size n b:Nat} {v:Value} {xs:List Value} (h:Own W0 w e size v n xs) (hne:v.ownBlock≠some b) (i:Nat) (u:Value):Own W0 (w.setCell ⟨b,i,none⟩ u) e size v n xs:=by
 refine ⟨h.1,?_⟩
 rcases h.2 with hn | ⟨g,cap,cur,hv,hb,hh,r⟩
 ·exact .inl hn
 ·subst hv
  exact .inr ⟨g,cap,cur,rfl,hb,by rw [Below.heap_setCell _ _ _ _ (by rintro rfl;exact hne rfl)];exact hh,r⟩
theorem one_flat2 (fs:List Fld):∀u∈flat2 fs,u.oneCell'=true:=by
 intro u hu
 unfold flat2 at hu
 obtain ⟨x,_,hx⟩:=List.mem_flatMap.1 hu
 simp at hx
 rcases hx with rfl | rfl <;> rfl
theorem putH_le (T:HeadT) (h1:T.1.length≤600) (h2:T.2.1.length≤600):(putH T).1.length≤70000:=by
 have hp:=put_len T.2.2.2
 rcases Classical.em ((putH T).2=0) with h | h
 ·obtain ⟨hb,he,_,_,hl⟩:=putH_ok h
  have:=(line_no hb).2
  rw [he];simp;omega
 ·unfold putH at *
  split
  ·rename_i hc
   split
   ·rename_i hz;rw [if_pos hc,if_pos hz] at h;exact absurd rfl h
   ·simp
  ·simp
end Go.Proofs.YtflepnkpihfidaaGreatDoor
