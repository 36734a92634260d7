/- Several texts in one (their own heads say what each is). No conditions but those that each theorem names. -/
import Derived.Test.YtgfckbhkgggkeaaGreatDoorJField2
import Derived.Test.YtgfckbhkgggkeaaGreatDoorJLawA
set_option linter.unusedVariables false
set_option linter.unusedSimpArgs false
/- XField8 -/
namespace Go.Proofs.YtgfckbhkgggkeaaGreatDoor
open Lib (hid)
open Go.RowKit
theorem Strs.cellAt {w:World} {A:Option Addr} {n c:Nat} {xs:List (List UInt8)} (h:Strs w (.slice A n c) xs) (k:Nat) (hk:k < xs.length):∃b o,A=some ⟨b,o,none⟩∧b < w.heap.size∧w.cell? ⟨b,o+k,none⟩=some (str xs[k]):=by
 obtain ⟨A',c',e,_,_,hh⟩:=h.open
 obtain ⟨rfl,_,_⟩:A=A'∧n=xs.length∧c=c':=by simpa using e
 exact hh k hk
set_option maxHeartbeats 2000000 in
theorem refItems1_any (l:List UInt8) (w:World) (_hl:l.length≤1000000):Calls Tryz.prog 104 #[str l] w fun e w'=>∃v,e=.returned v∧Own w w' 9 1 v (scan false false [] l).length (((scan false false [] l).map trim).map str)∧Gr w w':=by
 go_enter Tryz.func104,Tryz.ntmps104
 go_wp2_with fail
 go_loopw [3,4,5,6,7] (fun v it qv nv i wr=>∃(k:Nat) (q n:Bool) (item:List UInt8) (done:List (List UInt8)),k≤l.length∧item.length≤k∧done.length≤k∧i=.int .i64 k∧it=str item∧qv=.bool q∧nv=.bool n∧Gr w wr∧done++scan q n item (l.drop k)=scan false false [] l∧Own w wr 9 1 v done.length ((done.map trim).map str)) (fun _ _ _ _ i _=>l.length-(intOf i).toNat)
 case atStart=>exact ⟨0,false,false,[],[],Nat.zero_le _,Nat.zero_le _,Nat.zero_le _,rfl,rfl,rfl,rfl,Gr.refl _,rfl,Own.nil _ _ _ _⟩
 case round=>
  obtain ⟨k,q,n,item,done,hk,hi,hdn,rfl,rfl,rfl,rfl,hG,hE,hown⟩:=hrel
  have HO:=hid hown;clear hown
  by_cases hlt:k < l.length
  ·rw [scan_at q n item l k hlt] at hE
   have e92:(l[k]==92)=((l[k].toNat:Int)==92):=u8_eq (n:=92) (by decide)
   have e34:(l[k]==34)=((l[k].toNat:Int)==34):=u8_eq (n:=34) (by decide)
   have e44:(l[k]==44)=((l[k].toNat:Int)==44):=u8_eq (n:=44) (by decide)
   rw [e92,e34,e44] at hE
   have HE:=hid hE
   clear e92 e34 e44 hE
   have hx:(l.drop k).take 1=[l[k]]:=by rw [List.drop_eq_getElem_cons hlt];rfl
   have hx1:k+1-k=1:=by omega
   cases q <;> cases n <;> cases h1:((l[k].toNat:Int)==92) <;> cases h2:((l[k].toNat:Int)==34) <;> cases h3:((l[k].toNat:Int)==44)
   all_goals try (exfalso;simp only [beq_iff_eq] at h1 h2;omega)
   all_goals try (exfalso;simp only [beq_iff_eq] at h2 h3;omega)
   all_goals try (exfalso;simp only [beq_iff_eq] at h1 h3;omega)
   all_goals
    have hE:=HE.out
    simp only [h1,h2,h3,Bool.false_eq_true,if_false,if_true,Bool.and_true,Bool.and_false,Bool.not_true,Bool.not_false] at hE
    have HF:=hid hE;clear hE HE
    go_wp2_with (first
     | (go_at_call 109;refine (refTrim_any _ _ (by omega)).mono ?_;rintro e w1 ⟨rfl,hG1⟩)
     | (at_builtin;refine wpList_app1 elemStr rfl _ _ rfl rfl rfl (Gr.tr hG hG1) (HO.out.gr hG1) rfl (one_str _) (by omega) (by omega) ?_;intro v' w' hown' hG'))
   all_goals first
    | exact ⟨⟨k+1,_,_,item++[l[k]],done,by omega,by simp;omega,by omega,by go_num,by simp,rfl,rfl,hG,HF.out,HO.out⟩,by simp [intOf];omega⟩
    | exact ⟨⟨k+1,_,_,[],done++[item],by omega,by simp,by simp;omega,by go_num,rfl,rfl,rfl,hG',by rw [List.append_assoc];exact HF.out,by simpa using hown'⟩,by simp [intOf];omega⟩
  ·rw [scan_past q n item l k hlt] at hE
   have HE:=hid hE;clear hE
   go_wp2_with (first
    | (go_at_call 109;refine (refTrim_any _ _ (by omega)).mono ?_;rintro e w1 ⟨rfl,hG1⟩)
    | (at_builtin;refine wpList_app1 elemStr rfl _ _ rfl rfl rfl (Gr.tr hG hG1) (HO.out.gr hG1) rfl (one_str _) (by omega) (by omega) ?_;intro v' w' hown' hG'))
   go_ret
   exact ⟨_,rfl,by rw [←HE.out];simpa using hown',hG'⟩
set_option maxHeartbeats 2000000 in
theorem refItems_any (u:Value) (vs:List (List UInt8)) (w:World) (hu:Strs w u vs) (hs:∀x∈vs,x.length≤1000000) (_hb:bulk1 vs+vs.length≤1000000) :
  Calls Tryz.prog 75 #[u] w fun e w'=>∃v,e=.returned v∧Strs w' v (itemsAll vs)∧Gr w w':=by
 obtain ⟨A,c,rfl,hc,hx,hA⟩:=hu.open
 have HA:=hid hA;have HS:=hid hs;clear hA hu hs
 go_enter Tryz.func75,Tryz.ntmps75
 go_wp2_with fail
 go_loopw [3,5,7,10] (fun v x y i wr=>∃(k:Nat),k≤vs.length∧i=.int .i64 k∧Gr w wr∧Own w wr 9 1 v (itemsAll (vs.take k)).length ((itemsAll (vs.take k)).map str)) (fun _ _ _ i _=>vs.length-(intOf i).toNat)
 case atStart=>exact ⟨0,Nat.zero_le _,rfl,Gr.refl _,Own.nil _ _ _ _⟩
 case round=>
  obtain ⟨k,hk,rfl,hG,hown⟩:=hrel
  have HO:=hid hown;clear hown
  obtain ⟨wo,hwo⟩:∃wo:World,wo=wr:=⟨_,rfl⟩
  subst hwo
  by_cases hlt:k < vs.length
  ·obtain ⟨b1,o1,rfl,hb1,hc1⟩:=HA.out k hlt
   have hB1:=HS.out _ (List.getElem_mem hlt)
   have hc2:=Gr.cell hG hc1
   have hsu:=hid (itemsAll_succ vs k hlt)
   have HN:∀j:Nat,(itemsAll (vs.take k)).length+(((((scan false false [] vs[k]).map trim).take j).filter (!·.isEmpty)).length)≤1000000:=fun j=>by
    have h1:(itemsAll (vs.take (k+1))).length≤bulk1 (vs.take (k+1))+(vs.take (k+1)).length:=itemsAll_len _
    have h2:bulk1 (vs.take (k+1))≤bulk1 vs:=by
     have e:bulk1 vs=bulk1 (vs.take (k+1))+bulk1 (vs.drop (k+1)):=by
      unfold bulk1
      rw [←List.sum_append,←List.map_append,List.take_append_drop]
     omega
    rw [hsu.out,List.length_append] at h1
    have h3:((((scan false false [] vs[k]).map trim).take j).filter (!·.isEmpty)).length≤(itemsV vs[k]).length:=by
     unfold itemsV
     exact ((List.take_sublist _ _).filter _).length_le
    rw [List.length_take] at h1
    omega
   have HN:=hid HN
   clear HA HS
   generalize hys:(scan false false [] vs[k]).map trim=ys at *
   have hysl:(scan false false [] vs[k]).length=ys.length:=by rw [←hys,List.length_map]
   have HY:=hid (show itemsV vs[k]=ys.filter (!·.isEmpty) from by unfold itemsV;rw [hys])
   have HI:=hid (refItems1_any vs[k] wo (by omega))
   rw [hys,hysl] at HI
   have hysb:ys.length≤1000001:=by rw [←hysl];have:=scan_len vs[k] false false [];omega
   clear hys hysl
   go_upto_region 6 with (go_at_call 104;refine HI.out.mono ?_;rintro e w1 ⟨v1,rfl,hv1,hG1⟩;obtain ⟨A1,c1,rfl⟩:=hv1.form)
   have hS1:Sl w1 (.slice A1 ys.length c1) ys.length (ys.map str):=hv1.sl (by omega)
   have hoff:Off u3 (.slice A1 ys.length c1):=Off.new HO.out hv1
   have hG1':=Gr.tr hG hG1
   have HO1:=hid (HO.out.gr hG1)
   clear hv1 HI hG HO hG1 hc2
   go_loopw [3,7,17] (fun v y jv wr=>∃(j:Nat),j≤ys.length∧jv=.int .i64 j∧Gr w wr∧Sl wr (.slice A1 ys.length c1) ys.length (ys.map str)∧Off v (.slice A1 ys.length c1)∧Own w wr 9 1 v (itemsAll (vs.take k)++(ys.take j).filter (!·.isEmpty)).length ((itemsAll (vs.take k)++(ys.take j).filter (!·.isEmpty)).map str)) (fun _ _ jv _=>ys.length-(intOf jv).toNat)
   case atStart=>exact ⟨0,Nat.zero_le _,rfl,hG1',hS1,hoff,by simpa using HO1.out⟩
   case round=>
    clear hS1 hoff hG1' HO1
    obtain ⟨j,hj,rfl,hG,hS1,hoff,hown⟩:=hrel
    have HO:=hid hown;clear hown
    have HS1:=hid hS1;have HOF:=hid hoff
    clear hS1 hoff
    by_cases hjl:j < ys.length
    ·obtain ⟨b2,o2,rfl,hb2,hc2⟩:=(show Strs wr (.slice A1 ys.length c1) ys from HS1.out).cellAt j hjl
     have hnn:=HN.out j
     have hts:=hid (take_snoc ys j hjl)
     cases he:ys[j].isEmpty with
     | true=>
       go_wp2_with fail
       exact ⟨⟨j+1,by omega,by go_num,hG,HS1.out,HOF.out,by rw [hts.out,List.filter_append];simpa [he] using HO.out⟩,by simp [intOf];omega⟩
     | false=>
       have hne:(ys.map str)≠[]:=by intro h;rw [List.map_eq_nil_iff] at h;rw [h] at hjl;simp at hjl
       have HNE:=hid hne;clear hne
       go_wp2_with (at_builtin;refine wpList_app1x elemStr rfl _ _ rfl rfl rfl hG.size HO.out rfl (one_str _) (by rw [List.length_append];omega) (by omega) ?_;intro v' w' hown' happ)
       exact ⟨⟨j+1,by omega,by go_num,happ.gr hG HO.out,HS1.out.kept happ.grown HOF.out,HOF.out.app happ HS1.out HNE.out,by rw [hts.out,List.filter_append];simpa [he,Nat.add_assoc] using hown'⟩,by simp [intOf];omega⟩
    ·go_wp2_with fail
     exact ⟨⟨k+1,by omega,by go_num,hG,by rw [hsu.out,HY.out];rw [show ys.take j=ys from List.take_of_length_le (by omega)] at HO;exact HO.out⟩,by simp [intOf];omega⟩
  ·go_wp2_with fail
   go_ret
   exact ⟨_,rfl,own_str HO.out (by rw [List.take_of_length_le (by omega)]) (by rw [List.take_of_length_le (by omega)]),hG⟩
end Go.Proofs.YtgfckbhkgggkeaaGreatDoor
/- XField9 -/
namespace Go.Proofs.YtgfckbhkgggkeaaGreatDoor
open Lib (hid)
open Go.RowKit
def ItemsEnd (w:World) (vs:List (List UInt8)) (e:Ending) (w':World):Prop:=
 ∃g av,e=.returned (.func (.func 142) #[] #[.pointer (some ⟨g,0,none⟩)])∧w'.cell? ⟨g,0,none⟩=some av∧Strs w' av vs∧Gr w w'∧w.heap.size≤g∧(av.ownBlock=none∨∃b,av.ownBlock=some b∧w.heap.size≤b)
set_option maxHeartbeats 2000000 in
theorem items_any (u:Value) (vs:List (List UInt8)) (w:World) (hu:Strs w u vs) (_hv:vs.length≤1000000):Calls Tryz.prog 115 #[u] w (ItemsEnd w vs):=by
 obtain ⟨A,c,rfl,hc,hx,hA⟩:=hu.open
 have HU:=hid hu
 clear hu hA
 go_enter Tryz.func115,Tryz.ntmps115
 go_wp2_with (at_builtin;refine wpList_appS elemStr rfl _ _ rfl rfl rfl (Nat.le_refl _) (Own.nil w w _ _) HU.out (by simp) (by intro u hu;simp at hu;obtain ⟨x,_,rfl⟩:=hu;rfl) (by omega) (by omega) ?_;intro v' w' hown' happ;rw [Nat.zero_add] at hown';obtain ⟨A',c',rfl⟩:=hown'.form)
 go_ret
 have hG:=happ.gr (Gr.refl w) (Own.nil w w 9 1)
 have hb:=Bk.new w' 140 #[.slice A' vs.length c'] (0,0)
 refine ⟨w'.heap.size,_,rfl,hb.cell 0,(own_str hown' (by simp) (by simp)).gr (Gr.al (Gr.refl _) _),Gr.al hG _,hG.size,?_⟩
 cases he:(Value.slice A' vs.length c').ownBlock with
 | none=>exact .inl he
 | some b=>exact .inr ⟨b,he,(World.ownsRow.lt hown' b he).1⟩
end Go.Proofs.YtgfckbhkgggkeaaGreatDoor
/- XField10 -/
namespace Go.Proofs.YtgfckbhkgggkeaaGreatDoor
open Lib (hid)
open Go.RowKit
theorem by_app {W0 w w':World} {e:TypeId} {size n:Nat} {v v':Value} {xs:List Value} {r:Option Nat} (h:W0.grownBy w r) (ho:Own W0 w e size v n xs) (a:App v v' w w'):W0.grownBy w' r:=
 ⟨a.grown.os.trans h.os,a.grown.tape.trans h.tape,a.grown.output.trans h.output,Nat.le_trans h.size a.grown.size,fun k hk hr=>(a.grown.block k (Nat.lt_of_lt_of_le hk h.size) (fun e=>by
  have:=(World.ownsRow.lt ho k e.symm).1;omega)).trans (h.block k hk hr)⟩
end Go.Proofs.YtgfckbhkgggkeaaGreatDoor
