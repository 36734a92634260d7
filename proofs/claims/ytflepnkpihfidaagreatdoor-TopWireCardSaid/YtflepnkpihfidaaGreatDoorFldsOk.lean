/- Fields that are read from a head: their sizes. No conditions. -/
import Derived.Test.YtflepnkpihfidaaGreatDoorJFrame2
set_option linter.unusedVariables false
set_option linter.unusedSimpArgs false
namespace Go.Proofs.YtflepnkpihfidaaGreatDoor
theorem right_sizes {f:Fld} (h:right f=true):f.1.length≤200∧f.2.length≤8192:=by
 unfold right at h
 simp only [Bool.and_eq_true,decide_eq_true_eq] at h
 exact ⟨h.1.1.1.2,h.1.1.2⟩
theorem bulk1_le45 {vs:List (List UInt8)} {k:Nat} (h:∀x∈vs,x.length≤k):bulk1 vs≤vs.length*k:=by
 unfold bulk1
 induction vs with
 | nil=>simp
 | cons x r ih=>
   have h1:=h x (List.mem_cons_self ..)
   have h2:=ih (fun y hy=>h y (List.mem_cons_of_mem _ hy))
   simp only [List.map_cons,List.sum_cons,List.length_cons,Nat.add_mul,Nat.one_mul]
   omega
theorem scan_len45 (l:List UInt8) (q n:Bool) (item:List UInt8):(scan q n item l).length≤l.length+1:=by
 induction l generalizing q n item with
 | nil=>simp [scan]
 | cons c t ih=>
   rw [scan_cons]
   have h1:=ih q n []
   have h2:=ih q false (item++[c])
   have h3:=ih q true (item++[c])
   have h4:=ih (!q) false (item++[c])
   simp only [List.length_cons]
   split
   ·simp only [List.length_cons];omega
   ·split
    ·omega
    ·split
     ·omega
     ·split <;> omega
theorem itemsV_len45 (l:List UInt8):(itemsV l).length≤l.length+1:=by
 unfold itemsV
 exact Nat.le_trans (List.length_filter_le _ _) (by rw [List.length_map];exact scan_len45 l _ _ _)
theorem itemsAll_len45 (vs:List (List UInt8)):(itemsAll vs).length≤bulk1 vs+vs.length:=by
 unfold itemsAll bulk1
 induction vs with
 | nil=>simp
 | cons v vs ih=>
   have:=itemsV_len45 v
   simp only [List.flatMap_cons,List.length_append,List.map_cons,List.sum_cons,List.length_cons];omega
structure FldsOk (F:List Fld):Prop where
 short:Short2 F
 val:∀f∈F,f.2.length≤1000000
 many:F.length≤1000
 items:(itemsAll (ofN F codingN)).length≤1000000000
theorem fldsOk_right {F:List Fld} (h:F.all right=true) (hn:F.length≤100):FldsOk F:=by
 have hr:=fun f hf=>right_sizes (List.all_eq_true.1 h f hf)
 refine ⟨fun f hf=>⟨Nat.le_trans (hr f hf).1 (by decide),Nat.le_trans (hr f hf).2 (by decide)⟩,fun f hf=>Nat.le_trans (hr f hf).2 (by decide),by omega,?_⟩
 have h1:=itemsAll_len45 (ofN F codingN)
 have h2:bulk1 (ofN F codingN)≤(ofN F codingN).length*8192:=bulk1_le45 (fun x hx=>by
  unfold ofN at hx
  rw [List.mem_map] at hx
  obtain ⟨f,hf,rfl⟩:=hx
  exact (hr f (List.mem_filter.1 hf).1).2)
 have h3:=ofN_len F codingN
 have h4:(ofN F codingN).length*8192≤100*8192:=Nat.mul_le_mul_right _ (by omega)
 omega
end Go.Proofs.YtflepnkpihfidaaGreatDoor
