/- All walks. -/
import Derived.Test.YtmkgfooomdagmaaDoorXFn3
