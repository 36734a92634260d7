/- Arguments that are pieces of bytes, opened. No conditions beyond the row's own reach. -/
import Derived.Test.YtgfckbhkgggkeaaGreatDoorJRow
import Derived.Test.YtgfckbhkgggkeaaGreatDoorJClB
set_option linter.unusedVariables false
set_option linter.unusedSimpArgs false
namespace Go.Proofs.YtgfckbhkgggkeaaGreatDoor
open Go.ChangeShapes Go.WideShapes Go.ChangeAt Go.RowKit Go.Deep Go.Joins
theorem rd_bytes {w:World}:∀{rows:List (List Value)},(∀r∈rows,r.length=(Sh.int .u8).size∧Rd (.int .u8) w r)→∃l:List UInt8,l.length=rows.length∧rows.flatten=l.map byt
 | [],_=>⟨[],rfl,rfl⟩
 | r::rows,h=>by
   obtain ⟨l,h1,h2⟩:=rd_bytes (rows:=rows) (fun x hx=>h x (List.mem_cons_of_mem _ hx))
   obtain ⟨x,rfl,hw⟩:=(h r (List.mem_cons_self ..)).2
   have hb:=bounds_u8 hw
   refine ⟨UInt8.ofNat x.toNat::l,by simp [h1],?_⟩
   rw [List.flatten_cons,h2,List.map_cons]
   have e:byt (UInt8.ofNat x.toNat)=.int .u8 x:=by
    unfold byt
    rw [UInt8.toNat_ofNat']
    congr 1
    omega
   rw [e];rfl
theorem rd_bods {w:World}:∀{rows:List (List Value)},(∀r∈rows,r.length=(Sh.slice (.int .u8)).size∧Rd (.slice (.int .u8)) w r)→∃L:List (List UInt8×Value),L.length=rows.length∧rows.flatten=L.map (·.2)∧∀x∈L,Byts w x.2 x.1∧x.1.length≤140737488355328
 | [],_=>⟨[],rfl,rfl,fun _ h=>by cases h⟩
 | r::rows,h=>by
   obtain ⟨L,h1,h2,h3⟩:=rd_bods (rows:=rows) (fun x hx=>h x (List.mem_cons_of_mem _ hx))
   obtain ⟨v,rr,rfl,hl,hs,hr⟩:=(h r (List.mem_cons_self ..)).2
   obtain ⟨l,e1,e2⟩:=rd_bytes hr
   refine ⟨(l,v)::L,by simp [h1],by rw [List.flatten_cons,h2,List.map_cons];rfl,fun x hx=>?_⟩
   rcases List.mem_cons.1 hx with rfl | hx
   ·exact ⟨by show Sl w v l.length (l.map byt);rw [e1,←e2];exact hs,by simp only;omega⟩
   ·exact h3 x hx
section
variable {H : Type} {enc : TypeId × Value → H} {P : Program}
theorem open_bods {W:World} {b0:Nat} {t:TypeId} {v:Value} {d:DataW H} {ps:List MemPlace} (hf:fits P (.slice (.slice (.int .u8))) (.inl t)=true)
  (hval:Value.okWide P W .any b0 t v) (hd:DataW.Trod enc P W 0 (fun _=>true) true t v d ps) (hz:∀n∈d.weights P t,n≤reachBytes):∃pl:List (List UInt8),Bods W v pl∧∀x∈pl,x.length≤140737488355328:=by
 obtain ⟨rows,hl,hs,hr⟩:=open_rows hf hval hd hz
 obtain ⟨L,h1,h2,h3⟩:=rd_bods hr
 refine ⟨L.map (·.1),⟨L,rfl,by rw [h1,←h2];exact hs,fun x hx=>(h3 x hx).1⟩,fun x hx=>?_⟩
 obtain ⟨y,hy,rfl⟩:=List.mem_map.1 hx
 exact (h3 y hy).2
end
end Go.Proofs.YtgfckbhkgggkeaaGreatDoor
