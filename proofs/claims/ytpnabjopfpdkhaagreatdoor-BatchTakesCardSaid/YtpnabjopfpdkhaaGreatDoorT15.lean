/- Lemmas. -/
import Derived.Test.YtpnabjopfpdkhaaGreatDoorT02
import Derived.Test.YtpnabjopfpdkhaaGreatDoorT05
import Derived.LoopTactic
import Derived.Outline
set_option linter.unusedSimpArgs false
set_option linter.unusedVariables false
set_option maxHeartbeats 2000000
set_option maxRecDepth 20000
namespace Go.Proofs.YtpnabjopfpdkhaaGreatDoor
open Go.RowKit
def wordsT:List UInt8:=[32,97,98,111,114,116,32,97,110,100,32,100,101,108,101,116,101,32,101,108,115,101,32,102,97,108,115,101,32,102,111,114,32,103,101,116,32,104,97,115,32,105,102,32,105,110,32,108,101,110,32,108,101,116,32,110,105,108,32,110,111,116,32,111,114,32,112,117,116,32,114,101,112,101,97,116,32,114,101,116,117,114,110,32,115,99,97,110,32,115,101,116,32,115,104,111,119,32,116,114,117,101,32]
def lowB (c:UInt8):Bool:=decide (97≤c.toNat∧c.toNat≤122)
def qdr (l:List UInt8):Bool:=wordL.any (fun x=>l==x.data.toList)||l==[116,114,117,101]
theorem qdW (s:ByteArray):wordB s=qdr s.data.toList:=by
 unfold wordB qdr;simp only[Lib.toList_data]
def hitL (l:List UInt8) (k:Nat):Bool:=(wordsT.drop k).take (l.length+2)==32::l++[32]
theorem hit_eq (s:ByteArray) (k:Nat) (h:k+s.size+2≤103):((({ data:=#[32,97,98,111,114,116,32,97,110,100,32,100,101,108,101,116,101,32,101,108,115,101,32,102,97,108,115,101,32,102,111,114,32,103,101,116,32,104,97,115,32,105,102,32,105,110,32,108,101,110,32,108,101,116,32,110,105,108,32,110,111,116,32,111,114,32,112,117,116,32,114,101,112,101,97,116,32,114,101,116,117,114,110,32,115,99,97,110,32,115,101,116,32,115,104,111,119,32,116,114,117,101,32] }:ByteArray).extract k (k+s.size+2)).toList==(({ data:=#[32] }:ByteArray)++s++{ data:=#[32] }).toList)=hitL s.data.toList k:=by
 unfold hitL wordsT;simp only[Lib.toList_data]
 have e1:(({ data:=#[32,97,98,111,114,116,32,97,110,100,32,100,101,108,101,116,101,32,101,108,115,101,32,102,97,108,115,101,32,102,111,114,32,103,101,116,32,104,97,115,32,105,102,32,105,110,32,108,101,110,32,108,101,116,32,110,105,108,32,110,111,116,32,111,114,32,112,117,116,32,114,101,112,101,97,116,32,114,101,116,117,114,110,32,115,99,97,110,32,115,101,116,32,115,104,111,119,32,116,114,117,101,32] }:ByteArray).extract k (k+s.size+2)).data.toList=(wordsT.drop k).take (s.data.toList.length+2):=by
  have hl:s.data.toList.length=s.size:=by simp
  have e:k+s.size+2-k=s.size+2:=by omega
  rw[hl];simp only[ByteArray.data_extract,Array.toList_extract,List.extract_eq_take_drop,e]
  rfl
 rw[e1]
 have e2:(({ data:=#[32] }:ByteArray)++s++{ data:=#[32] }).data.toList=32::s.data.toList++[32]:=by simp
 rw[e2]
 rfl
def chk:Bool:=(List.range 103).all fun k=>(List.range 102).all fun n=>!(wordsT.getD k 0==32&&wordsT.getD (k+n+1) 0==32&&((wordsT.drop (k+1)).take n).all lowB)||(n==0||qdr ((wordsT.drop (k+1)).take n))
theorem chk_true:chk=true:=by kernel_rfl
def chk2:Bool:=(wordL.map (fun x:ByteArray=>x.data.toList)++[[116,114,117,101]]).all fun l:List UInt8=>l.all lowB&&!l.isEmpty&&(List.range 103).any fun k=>decide (k+l.length+2≤103)&&hitL l k
theorem chk2_true:chk2=true:=by kernel_rfl
theorem isWord_mem (l:List UInt8) (h:qdr l=true):l∈wordL.map (fun x:ByteArray=>x.data.toList)++[[116,114,117,101]]:=by
 unfold qdr at h;simp only[Bool.or_eq_true,List.any_eq_true,beq_iff_eq] at h
 rcases h with ⟨x,hx,rfl⟩ | rfl
 · exact List.mem_append_left _ (List.mem_map.2 ⟨x,hx,rfl⟩)
 · exact List.mem_append_right _ zaj
theorem qdN (l:List UInt8) (h:qdr l=true):l.all lowB=true∧l≠[]∧∃ k,k+l.length+2≤103∧hitL l k=true:=by
 have:=List.all_eq_true.1 chk2_true l (isWord_mem l h)
 simp only[Bool.and_eq_true,List.any_eq_true,decide_eq_true_eq] at this
 obtain⟨⟨h1,h2⟩,k,_,h3,h4⟩:=this
 exact⟨h1,by simpa using h2,k,h3,h4⟩
theorem hit_word (l:List UInt8) (k:Nat) (hk:k+l.length+2≤103) (hl:l.all lowB=true) (hne:l≠[]) (h:hitL l k=true):qdr l=true:=by
 have hpos:0<l.length:=by cases l<;>simp at hne ⊢
 have h1:=List.all_eq_true.1 chk_true k (List.mem_range.2 zac);have h2:=List.all_eq_true.1 h1 l.length (List.mem_range.2 zac)
 have he:(wordsT.drop k).take (l.length+2)=32::l++[32]:=by simpa [hitL] using h
 have hg:∀ j,j<l.length+2→wordsT[k+j]?=(32::l++[32])[j]?:=by
  intro j hj;rw[←he,List.getElem?_take,if_pos hj,List.getElem?_drop]
 have g0:wordsT[k]?=some 32:=by have:=hg 0 zac;simpa using this
 have g1:wordsT[k+l.length+1]?=some 32:=by
  have:=hg (l.length+1) zac
  rw[Nat.add_assoc,this]
  simp
 have gm:(wordsT.drop (k+1)).take l.length=l:=by
  have e:wordsT.drop (k+1)=(wordsT.drop k).drop 1:=by rw[List.drop_drop]
  rw[e,List.take_drop]
  have e2:((wordsT.drop k).take (1+l.length))=((wordsT.drop k).take (l.length+2)).take (1+l.length):=by rw[List.take_take];congr 1;omega
  rw[e2,he]
  simp[List.take_append,Nat.add_comm 1]
 rw[gm,hl] at h2;simp only[List.getD,g0,g1,Option.getD_some] at h2
 have hn0:(l.length==0)=false:=by simpa using hne
 simpa [hn0] using h2
theorem lows_bad (s:ByteArray) (k:Nat) (h:k<s.size) (hb:lowB (s[k]'h)=false):wordB s=false:=by
 rw[qdW]
 cases hw:qdr s.data.toList
 · rfl
 · have h1:=(qdN _ hw).1
   have hu:s.data.toList[k]?=some (s[k]'h):=by rw[List.getElem?_eq_getElem zbn];rfl
   have:=List.all_eq_true.1 h1 _ (List.mem_of_getElem? hu)
   rw[hb] at this;cases this
theorem lows_step (s:ByteArray) (k:Nat) (h:k<s.size) (ha:(s.data.toList.take k).all lowB=true) (hb:lowB (s[k]'h)=true):(s.data.toList.take (k+1)).all lowB=true:=by
 have hu:s.data.toList[k]?=some (s[k]'h):=by rw[List.getElem?_eq_getElem zbn];rfl
 rw[List.take_add_one,hu,List.all_append,ha]
 simpa using hb
theorem word_hit (s:ByteArray) (k:Nat) (hk:k+s.size+2≤103) (hl:(s.data.toList.take s.size).all lowB=true) (hne:¬ s.toList=[]) (h:hitL s.data.toList k=true):wordB s=true:=by
 rw[qdW]
 have e:s.data.toList.take s.size=s.data.toList:=List.take_of_length_le zaj
 rw[e] at hl;exact hit_word _ k (by simpa using hk) hl (by rw[Lib.toList_data] at hne;exact hne) h
theorem word_nohit (s:ByteArray) (h:∀ k,k+s.size+2≤103→hitL s.data.toList k=false):wordB s=false:=by
 rw[qdW]
 cases hw:qdr s.data.toList
 · rfl
 · obtain⟨_,_,k,hk,hh⟩:=qdN _ hw
   rw[h k (by simpa using hk)] at hh;cases hh
theorem word_none (s:ByteArray) (h:s.toList=[]):wordB s=false:=by
 rw[qdW];rw[Lib.toList_data] at h;rw[h];rfl
theorem rword_big (s:ByteArray) (hs:(s.size:Int)≤100000) (w:World):Calls Tryz.prog 141 #[.string s] w fun e w'=>e=.returned (.bool (wordB s))∧Ext w w':=by
 have HB:=Lib.hid (lows_bad s);have HSt:=Lib.hid (lows_step s);have HH:=Lib.hid (word_hit s);have HNH:=Lib.hid (word_nohit s);have HE:=Lib.hid (hit_eq s);have HWN:=Lib.hid (word_none s);generalize wordB s=B at *;go_enter Tryz.func141,Tryz.ntmps141;go_wp2_with fail
 go_loop [3] (fun ii=>∃ k:Nat,ii=.int .i64 k∧k≤s.size∧(s.data.toList.take k).all lowB=true) (fun ii=>s.size-(intOf ii).toNat)
 case atStart=>exact⟨0,rfl,by omega,rfl⟩
 case round =>
  obtain⟨k,rfl,hk,hn⟩:=hrel
  have HN:=Lib.hid hn;clear hn
  by_cases hlt:k<s.size
  · cases hlow:lowB (s[k]'hlt)
    · have hf:=Lib.hid (HB.out k hlt hlow)
      by_cases q1:(s[k]'hlt).toNat<97
      · have e1:(((s[k]'hlt).toNat:Int)<97)=True:=by simp;omega
        clear q1 hlow;go_wp2_with fail;go_ret
        exact⟨ret_bool hf.out.symm,Ext.refl _⟩
      · have e1:(((s[k]'hlt).toNat:Int)<97)=False:=by simp;omega
        have e2:(122<((s[k]'hlt).toNat:Int))=True:=by simp[lowB] at hlow ⊢;omega
        clear q1 hlow;go_wp2_with fail;go_ret
        exact⟨ret_bool hf.out.symm,Ext.refl _⟩
    · have HST:=Lib.hid (HSt.out k hlt HN.out hlow)
      have e1:(((s[k]'hlt).toNat:Int)<97)=False:=by simp[lowB] at hlow ⊢;omega
      have e2:(122<((s[k]'hlt).toNat:Int))=False:=by simp[lowB] at hlow ⊢;omega
      clear hlow;go_wp2_with fail
      go_round
      case rel=>exact⟨k+1,by go_num,by omega,HST.out⟩
      case measure=>simp[intOf];omega
  · have hks:k=s.size:=by omega
    subst hks;go_wp2_with fail
    go_loop [4] (fun ii=>∃ k:Nat,ii=.int .i64 k∧k≤103∧∀ j,j<k→j+s.size+2≤103→hitL s.data.toList j=false) (fun ii=>103-(intOf ii).toNat)
    case atStart=>exact⟨0,rfl,by omega,fun j hj=>absurd hj zac⟩
    case round =>
     obtain⟨k,rfl,hk,hno⟩:=hrel
     have HNO:=Lib.hid hno;clear hno
     by_cases hlt:k+s.size+2≤103
     · by_cases hnil:s.toList=[]
       · have hf:=Lib.hid (HWN.out hnil)
         go_wp2_with fail
         go_round
         case rel =>
          refine ⟨k+1,by go_num,by omega,fun j hj hj2=>?_⟩;rcases Nat.lt_or_ge j k with h | h
          · exact HNO.out j h hj2
          · have e:j=k:=by omega
            subst e
            cases hh:hitL s.data.toList j
            · rfl
            · exfalso
              have hl:s.data.toList=[]:=by rw[Lib.toList_data] at hnil;exact hnil
              rw[hl] at hh
              have e2:s.size=0:=by rw[←ByteArray.size_data,←Array.length_toList,hl];rfl
              exact absurd hh (by
               have:∀ j,j<103→hitL [] j=false:=by decide +kernel
               simp[this j zac])
         case measure=>simp[intOf];omega
       · cases hh:hitL s.data.toList k
         · have hx:=HE.out k hlt
           rw[hh] at hx;have HHH:=Lib.hid hh;clear hh;go_wp2_with fail
           go_round
           case rel =>
            refine ⟨k+1,by go_num,by omega,fun j hj hj2=>?_⟩;rcases Nat.lt_or_ge j k with h | h
            · exact HNO.out j h hj2
            · have e:j=k:=by omega
              subst e;exact HHH.out
           case measure=>simp[intOf];omega
         · have hx:=HE.out k hlt
           rw[hh] at hx;have hf:=Lib.hid (HH.out k hlt HN.out hnil hh)
           have hne:(!s.toList.isEmpty)=true:=by simpa using hnil
           clear hh;go_wp2_with fail;go_ret
           exact⟨ret_bool hf.out.symm,Ext.refl _⟩
     · have hf:=Lib.hid (HNH.out fun j hj=>HNO.out j zac hj)
       go_wp2_with fail;go_ret
       exact⟨ret_bool hf.out.symm,Ext.refl _⟩
theorem rword_any (s:ByteArray) (hs:(s.size:Int)≤100) (w:World):Calls Tryz.prog 141 #[.string s] w fun e w'=>e=.returned (.bool (wordB s))∧Ext w w':=rword_big s zac w
end Go.Proofs.YtpnabjopfpdkhaaGreatDoor
