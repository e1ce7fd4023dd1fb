/- Ranges over functions whose contracts speak of memory. -/
import Derived.Test.YtbkhoemaobbplaaGreatDoorSymZC
import Derived.Test.YtbkhoemaobbplaaGreatDoorEvCoeCW
set_option linter.defProp false
set_option linter.unusedSimpArgs false
set_option linter.unusedVariables false
open List renaming map_congr_left->aab,map_map->aae
open Function renaming comp->aad
namespace Go.Ev
open Go Go.RowKit
variable {G:aP}
mutual
def V.u_{n m:Nat}(h:n<=m):∀v:V,(v.cl m).cl n=v.cl n
 | .ptr id b=>by
  by_cases a:id<m
  .simp only[V.cl,if_pos a]
  .simp only[V.cl,if_neg a,if_neg (show¬id<n by omega)]
 | .rs id b k e=>by
  by_cases a:id<m
  .simp only[V.cl,if_pos a]
  .simp only[V.cl,if_neg a,if_neg (show¬id<n by omega)]
 | .mp id=>by
  by_cases a:id<m
  .simp only[V.cl,if_pos a]
  .simp only[V.cl,if_neg a,if_neg (show¬id<n by omega)]
 | .yld id=>by
  by_cases a:id<m
  .simp only[V.cl,if_pos a]
  .simp only[V.cl,if_neg a,if_neg (show¬id<n by omega)]
 | .gs id k=>by
  by_cases a:id<m
  .simp only[V.cl,if_pos a]
  .simp only[V.cl,if_neg a,if_neg (show¬id<n by omega)]
 | .vs g tk=>by
  simp only[V.cl]
  cases tk with
  | own q =>
   by_cases a:q<m
   .simp only[Tk.cl,if_pos a]
   .simp only[Tk.cl,if_neg a,if_neg (show¬q<n by omega)]
  | no=>rfl
  | full=>rfl
 | .fn f c=>by simp only[V.cl,Hn h c]
 | .agg d=>by simp only[V.cl,Hn h d]
 | .bf d=>by simp only[V.cl,Hn h d]
 | .undef=>rfl
 | .lW=>rfl
 | .any=>rfl
 | .int _ _=>rfl
 | .bool _=>rfl
 | .str _=>rfl
 | .nilp=>rfl
 | .cptr _=>rfl
 | .nilf=>rfl
 | .nilm=>rfl
def Hn{n m:Nat}(h:n<=m):∀cs:List V,a_ n (a_ m cs)=a_ n cs
 | []=>rfl
 | c::cs=>by simp only[a_,V.u_ h c,Hn h cs]
end
def az.u_{n m:Nat}(h:n<=m)(b:az):(b.cl m).cl n=b.cl n:=by
 cases b with
 | cells a=>simp only[az.cl,Hn h]
 | grow a c d=>simp only[az.cl,Hn h]
 | zone k=>rfl
 | jo a=>simp only[az.cl,Hn h]
 | map e=>simp only[az.cl,aae];congr 1;exact aab λp _=>by simp only[aad,V.u_ h]
 | dF s pos=>rfl
 | loop f g as bo st=>simp only[az.cl,aae];congr 1;exact aab λp _=>by simp only[aad,V.u_ h]
def zvY{n m:Nat}(h:n<=m)(H:ae):ak n (ak m H)=ak n H:=by
 unfold ak;rw[<-List.map_take,aae,List.take_take,Nat.min_eq_left h]
 exact aab λb _=>by cases b with
  | none=>rfl
  | some b=>simp only[aad,Option.map_some,az.u_ h]
def ztH{H1:ae}{n k:Nat}{e0:List (Nat×V)}{ps:List Nat}{as bo:ba}{st:B5}(h:(ak n H1)[k]?=some (some (.loop e0 ps as bo st))):∃c,H1[k]?=some (some (.loop c ps as bo st)):=by
 unfold ak at h;rw[List.getElem?_map] at h
 by_cases d:k<n
 .rw[List.getElem?_take_of_lt d] at h
  cases a:H1[k]? with
  | none=>rw[a] at h;cases h
  | some b =>
   rw[a] at h
   cases b with
   | none=>simp at h
   | some b =>
    cases b<;>simp[az.cl] at h
    obtain⟨_,rfl,rfl,rfl,rfl⟩:=h;exact⟨_,rfl⟩
 .rw[List.getElem?_take_eq_none an] at h;cases h
def MC{f:Nat}{cap:List V}{l ps:List Nat}{as bo:ba}{r:V}{H H2:ae}{e0:List (Nat×V)}{g:List Nat}{i j:ba}{st:B5}{x:Ex}{K:List Kt}{e:Env}{Q:Ex->Env->ae->Prop}
  (h:SF G f (.yld H.length::cap) (H++[some (.loop (look e l) ps as bo .ready)]) r H2)
  (b:H2[H.length]?=some (some (.loop e0 g i j st))) (a:st=.ready/\x=.nx\/st=.done x/\x≠.nx) (c:Wr G x K e (ak H.length H2) Q):WI G (.fn f cap) l ps as bo K e H Q:=by
 obtain⟨n,H1,k,_,d⟩:=h;rw[<-d] at b;obtain⟨o,m⟩:=ztH b;refine zzw k m a ?_;rw[<-d,zvY ir] at c;exact c
end Go.Ev
