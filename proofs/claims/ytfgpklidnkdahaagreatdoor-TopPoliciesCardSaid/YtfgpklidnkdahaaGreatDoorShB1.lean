/-
  The compiled code of functions of the program, first part. No conditions beyond those that stand in the theorems.
-/
import Derived.Test.YtfgpklidnkdahaaGreatDoorShB0
set_option linter.all false
set_option maxHeartbeats 20000000
set_option maxRecDepth 100000
namespace Go.Sh
section
noncomputable section
def x3:=az 3
def x4:=az 4
def x5:=az 5
def x6:=az 6
def x7:=az 7
def x8:=az 8
def x9:=az 9
def Pl:=az 10
def Po:=az 11
def Pu:=az 12
def Pv:=az 13
def x16:=az 16
def PA:=az 17
def PB:=az 18
def PM:=az 19
def Iy:=az 20
def IA:=az 21
def DI:=az 22
def x23:=az 23
def x24:=az 24
def PQ:=az 25
def DM:=az 26
def IE:=az 27
def wb:=az 28
def x29:=az 29
def P3:=az 30
def P4:=az 31
def uL:=az 32
def P6:=az 33
def Qi:=az 34
def x35:=az 35
def x36:=az 36
def x38:=az 38
def x39:=az 39
def Qo:=az 40
def DX:=az 42
def AV:=az 43
def x44:=az 44
def x45:=az 45
def x46:=az 46
def Qq:=az 47
def Qs:=az 49
def IV:=az 51
def x52:=az 52
def IW:=az 53
def IX:=az 54
def Qt:=az 55
def Qu:=az 56
def IY:=az 57
def Qv:=az 58
def Qw:=az 59
def Qx:=az 60
def x61:=az 61
def AW:=az 62
def x63:=az 63
def x64:=az 64
def x65:=az 65
def x66:=az 66
def IZ:=az 67
def x68:=az 68
def x69:=az 69
def x70:=az 70
def I0:=az 71
def I1:=az 72
def x73:=az 73
attribute [go_sem] x3 x4 x5 x6 x7 x8 x9 Pl Po Pu Pv PA PB PM Iy IA DI PQ DM IE wb P3 P4 uL P6 Qi Qo DX AV Qq Qs IV IW IX Qt Qu IY Qv Qw Qx AW IZ I0 I1
end
end
end Go.Sh
