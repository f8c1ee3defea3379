import Derived.Test.YtcfcfblbpnpclaaGreatDoorSShowD
import Derived.Test.YtcfcfblbpnpclaaGreatDoorM4
namespace Go.Proofs.YtcfcfblbpnpclaaGreatDoor
open Sy Go
set_option maxRecDepth 100000
set_option linter.unusedSimpArgs false
theorem qIK {n:Nat} {cs:List PD} (h:ShC T (n+4) 22 cs):∃ l:List Outc,cs=[.sl 7 (l.map Outc.enc)]∧∀ o∈l,okI o.code∧okI o.docs∧okI o.outs∧okI o.charge∧∀ n∈o.errs,okI n:=by
 simp only [ShC] at h
 simp [ShF] at h
 obtain ⟨es,rfl,_,h⟩:=h
 obtain ⟨l,rfl,hl⟩:=vS (f:=Outc.enc) (p:=fun o=>okI o.code∧okI o.docs∧okI o.outs∧okI o.charge∧∀ n∈o.errs,okI n) (es:=es) (fun x hx=>by
  obtain ⟨cs,rfl,h⟩:=h x hx
  obtain ⟨_,_,rfl,⟨c,rfl,hc⟩,_,_,rfl,⟨d,rfl,hd⟩,_,_,rfl,⟨u,rfl,hu⟩,_,_,rfl,⟨g,rfl,hg⟩,_,_,rfl,⟨e1,rfl,_,h1⟩,_,_,rfl,⟨e2,rfl,_,h2⟩,e3,rfl,_,h3⟩:=h
  obtain ⟨errs,rfl,herr⟩:=vS (f:=inD) (p:=okI) (es:=e1) (fun x hx=>by
   obtain ⟨cs,rfl,n,rfl,hn⟩:=h1 x hx
   exact ⟨n,by simp [kE,inD],by unfold okI; omega⟩)
  have hby:∀ es:List PD,(∀ x∈es, ∃ cs:List PD,x=kE (.int .u8) cs∧∃ n:Int,cs=[.int .u8 n]∧0≤n∧n≤255)→∃ l:List UInt8,es=l.map byD:=fun es he=>qGB (f:=byD) (es:=es) (fun x hx=>by
   obtain ⟨cs,rfl,n,rfl,hn1,hn2⟩:=he x hx
   refine ⟨UInt8.ofNat n.toNat, ?_⟩
   have h8:((UInt8.ofNat n.toNat).toNat:Int)=n:=by rw [UInt8.toNat_ofNat']; omega
   show PD.int .u8 n=PD.int .u8 ((UInt8.ofNat n.toNat).toNat:Int)
   rw [h8])
  obtain ⟨out,rfl⟩:=hby e2 (fun x hx=>by
   obtain ⟨cs,rfl,n,rfl,hn⟩:=h2 x hx
   exact ⟨_,rfl,n,rfl,by omega,by omega⟩)
  obtain ⟨log,rfl⟩:=hby e3 (fun x hx=>by
   obtain ⟨cs,rfl,n,rfl,hn⟩:=h3 x hx
   exact ⟨_,rfl,n,rfl,by omega,by omega⟩)
  refine ⟨⟨c,d,u,g,errs,out,log⟩,by simp [kE,Outc.enc], ?_, ?_, ?_, ?_,herr⟩ <;> (unfold okI; simp only []; omega))
 exact ⟨l,rfl,hl⟩
end Go.Proofs.YtcfcfblbpnpclaaGreatDoor
