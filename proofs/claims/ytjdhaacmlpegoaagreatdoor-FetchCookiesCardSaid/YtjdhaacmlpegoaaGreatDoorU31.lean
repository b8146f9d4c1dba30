/- Part 31 of what the proof needs: YG. -/
import Derived.Test.YtjdhaacmlpegoaaGreatDoorU23
set_option linter.unusedSimpArgs false
set_option linter.unusedVariables false
namespace Go.Proofs.YtjdhaacmlpegoaaGreatDoor
open Go.RowKit
theorem wo_no (hs:List Hd)(h:Hd)(hh:h∈woL hs [ckN,ogN]):hitH ckN.data.toList h=false:=by
 have h1:=(Zp.1 hh).2;have h2:isH h ckN=false:=by
  cases e:isH h ckN with
  | false=>rfl
  | true=>simp [e] at h1
 exact h2
theorem hdF_no (S:FSt):hdrL (hdF S) ckN.data.toList=none:=by
 unfold hdrL;rw [List.find?_eq_none.2 fun h hh=>?_]
 ·rfl
 ·unfold hdF at hh;rcases Kz.1 hh with hh | hh
  ·rw [wo_no _ h hh];decide
  ·split at hh
   ·obtain rfl:=Jc.1 hh;show ¬ (lowL ogN.data.toList == lowL ckN.data.toList)=true;decide +kernel
   ·cases hh
theorem cookies_plain (now:Int)(S:FSt)(j:List Ck × Int)(h:(startF now S j []).s.ph=1):∃ e,(startF now S j []).ev=[e]/\(startF now S j []).s.ck=S.ck /\
 hdrL e.hs ckN.data.toList=(if S.ck=true/\(cookF j.1 now (startF now S j []).s).size≠0 then some (cookF j.1 now (startF now S j []).s) else none) /\
 e.hs=hdF (startF now S j []).s ++ (if (startF now S j []).s.ck && !(cookF j.1 now (startF now S j []).s).toList.isEmpty then [(ckN,cookF j.1 now (startF now S j []).s)] else []):=by
 rcases start_cases now S j with ⟨e,he⟩ | ⟨u,hu,hw,hm,hk,h2,he⟩
 ·rw [he] at h;exact absurd h (by show (4:Int)≠1;decide)
 ·rw [he];obtain ⟨T,hT⟩:∃ T:FSt,{ putU S u with sm:=S.me }=T:=⟨_,rfl⟩
  rw [hT];have hTk:T.ck=S.ck:=by rw [<-hT];rfl
  have hc:cookF j.1 now (askO j.1 now T [] [] false).s=cookF j.1 now T:=rfl;refine ⟨_,rfl,hTk,?_,(by
   show hdF T ++ [] ++ (if T.ck && !(cookF j.1 now T).toList.isEmpty then [(ckN,cookF j.1 now T)] else [])=hdF T ++ (if T.ck && !(cookF j.1 now T).toList.isEmpty then [(ckN,cookF j.1 now T)] else [])
   rw [Je])⟩
  show hdrL (hdF T ++ [] ++ (if T.ck && !(cookF j.1 now T).toList.isEmpty then [(ckN,cookF j.1 now T)] else [])) ckN.data.toList=if S.ck=true/\(cookF j.1 now (askO j.1 now T [] [] false).s).size≠0 then some (cookF j.1 now (askO j.1 now T [] [] false).s) else none
  rw [hc,<-hTk,Je];have h1:∀ x:List Hd,hdrL (hdF T ++ x) ckN.data.toList=hdrL x ckN.data.toList:=fun x=>by
   have h0:=hdF_no T
   unfold hdrL at h0 ⊢
   rw [List.find?_append]
   cases e:(hdF T).find? (hitH ckN.data.toList) with
   | none=>rfl
   | some y=>rw [e] at h0;cases h0
  rw [h1,empty_size];by_cases e:T.ck=true/\(cookF j.1 now T).size≠0
  ·rw [Kf e,e.1,Kj e.2];rfl
  ·rw [Ke e];have:(T.ck && !decide ((cookF j.1 now T).size=0))=false:=by
    cases hk:T.ck with
    | false=>rfl
    | true=>
      have:(cookF j.1 now T).size=0:=by
       by_cases e0:(cookF j.1 now T).size=0
       ·exact e0
       ·exact absurd ⟨hk,e0⟩ e
      rw [Kx this];rfl
   rw [this];rfl
end Go.Proofs.YtjdhaacmlpegoaaGreatDoor
