/- Parts. No conditions but those that each theorem names. -/
import Derived.Test.YtflepnkpihfidaaGreatDoorJField2
set_option linter.unusedVariables false
set_option linter.unusedSimpArgs false
set_option maxHeartbeats 64000000
set_option maxRecDepth 100000
namespace Go.Proofs.YtflepnkpihfidaaGreatDoor
open Lib (hid)
open Go.RowKit
theorem Strs.cellAt {w:World} {A:Option Addr} {n c:Nat} {xs:List (List UInt8)} (h:Strs w (.slice A n c) xs) (k:Nat) (hk:k < xs.length):∃b o,A=some ⟨b,o,none⟩∧b < w.heap.size∧w.cell? ⟨b,o+k,none⟩=some (str xs[k]):=by
 obtain ⟨A',c',e,_,_,hh⟩:=h.open
 obtain ⟨rfl,_,_⟩:A=A'∧n=xs.length∧c=c':=by simpa using e
 exact hh k hk
def ItemsEnd (w:World) (vs:List (List UInt8)) (e:Ending) (w':World):Prop:=
 ∃g av,e=.returned (.func (.func 299) #[] #[.pointer (some ⟨g,0,none⟩)])∧w'.cell? ⟨g,0,none⟩=some av∧Strs w' av vs∧Gr w w'∧w.heap.size≤g∧(av.ownBlock=none∨∃b,av.ownBlock=some b∧w.heap.size≤b)
theorem items_any (u:Value) (vs:List (List UInt8)) (w:World) (hu:Strs w u vs) (_hv:vs.length≤1000000):Calls Tryz.prog 266 #[u] w (ItemsEnd w vs):=by
 obtain ⟨A,c,rfl,hc,hx,hA⟩:=hu.open
 have HU:=hid hu
 clear hu hA
 go_enter Tryz.func266,Tryz.ntmps266
 go_wp2_with (at_builtin;refine wpList_appS elemStr rfl _ _ rfl rfl rfl (Nat.le_refl _) (Own.nil w w _ _) HU.out (by simp) (by intro u hu;simp at hu;obtain ⟨x,_,rfl⟩:=hu;rfl) (by omega) (by omega) ?_;intro v' w' hown' happ;rw [Nat.zero_add] at hown';obtain ⟨A',c',rfl⟩:=hown'.form)
 go_ret
 have hG:=happ.gr (Gr.refl w) (Own.nil w w 9 1)
 have hb:=Bk.new w' 64 #[.slice A' vs.length c'] (0,0)
 refine ⟨w'.heap.size,_,rfl,hb.cell 0,(own_str hown' (by simp) (by simp)).gr (Gr.al (Gr.refl _) _),Gr.al hG _,hG.size,?_⟩
 cases he:(Value.slice A' vs.length c').ownBlock with
 | none=>exact .inl he
 | some b=>exact .inr ⟨b,he,(World.ownsRow.lt hown' b he).1⟩
theorem Own.set {W0 w:World} {e:TypeId} {size n g:Nat} {v:Value} {xs:List Value} (h:Own W0 w e size v n xs) (hne:v.ownBlock≠some g) (i:Nat) (u:Value):Own W0 (w.setCell ⟨g,i,none⟩ u) e size v n xs:=by
 refine ⟨h.1,?_⟩
 rcases h.2 with hn | ⟨b,cap,cur,hv,hb,hh,r⟩
 ·exact .inl hn
 ·subst hv
  exact .inr ⟨b,cap,cur,rfl,hb,by rw [Below.heap_setCell _ _ _ _ (by rintro rfl;exact hne rfl)];exact hh,r⟩
theorem by_app {W0 w w':World} {e:TypeId} {size n:Nat} {v v':Value} {xs:List Value} {r:Option Nat} (h:W0.grownBy w r) (ho:Own W0 w e size v n xs) (a:App v v' w w'):W0.grownBy w' r:=
 ⟨a.grown.os.trans h.os,a.grown.tape.trans h.tape,a.grown.output.trans h.output,Nat.le_trans h.size a.grown.size,fun k hk hr=>(a.grown.block k (Nat.lt_of_lt_of_le hk h.size) (fun e=>by
  have:=(World.ownsRow.lt ho k e.symm).1;omega)).trans (h.block k hk hr)⟩
end Go.Proofs.YtflepnkpihfidaaGreatDoor
